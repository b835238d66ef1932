/- SHA-256: the end of a message; the whole. -/
import Derived.Test.YthjgmajfkfhdaaaH6
set_option linter.unusedSimpArgs false
set_option linter.unusedVariables false
set_option linter.constructorNameAsVariable false
namespace Go.Proofs
open Go.Vc
set_option maxRecDepth 10000

theorem bclone_ok (w : World) (x : Value) (bs : List Int) (h : Rd w x bs) (hn : x = .slice none 0 0 ∨ ∃ a n c, x = .slice (some a) n c) (hl : bs.length ≤ 500000000) :
    Calls Try.prog 32 #[x] w (Ret fun u w' => ByO w' u bs ∧ Ext w w' ∧ ∀ y, blk u y → w.heap.size ≤ y) := by
  refine calls_of_cfg c32_ok (Nat.le_of_ble_eq_true rfl) ?_
  simp only [argE_nil, argE_cons, Nat.reduceAdd, Nat.zero_add]
  (refine W_at c32_ok ?_; refine ⟨_, rfl, ?_⟩; simp (disch := first | omega | assumption | rfl | (simp only [vcS] <;> omega) | fail) only [↓ptV_l, ↓vcA, vcB, ↓vcD, vcE, ↓reduceIte, Nat.reduceEqDiff, Nat.reduceAdd, Nat.reduceMul, Nat.reduceLeDiff, Int.reduceLE, Int.reduceLT, Int.reduceEq, Int.reduceToNat, Int.reduceAdd, Int.reduceSub, Int.reduceMul, Int.reduceNeg, reduceCtorEq, Option.bind_some, Option.map_some, List.length_cons, List.length_nil, vcM, List.getElem?_toArray, List.getElem?_cons_zero, List.getElem?_cons_succ])
  rcases hn with rfl | ⟨a, n, c, rfl⟩
  · have e : bs = [] := by
      obtain ⟨⟨q, c, e, _⟩, _, _⟩ := h
      injection e with _ e _
      exact List.eq_nil_of_length_eq_zero e.symm
    subst e
    (refine W_at c32_ok ?_; refine ⟨_, rfl, ?_⟩; simp (disch := first | omega | assumption | rfl | (simp only [vcS] <;> omega) | fail) only [↓ptV_l, ↓vcA, vcB, ↓vcD, vcE, ↓reduceIte, Nat.reduceEqDiff, Nat.reduceAdd, Nat.reduceMul, Nat.reduceLeDiff, Int.reduceLE, Int.reduceLT, Int.reduceEq, Int.reduceToNat, Int.reduceAdd, Int.reduceSub, Int.reduceMul, Int.reduceNeg, reduceCtorEq, Option.bind_some, Option.map_some, List.length_cons, List.length_nil, vcM, List.getElem?_toArray, List.getElem?_cons_zero, List.getElem?_cons_succ, eqS_none])
    (refine W_at c32_ok ?_; refine ⟨_, rfl, ?_⟩; simp (disch := first | omega | assumption | rfl | (simp only [vcS] <;> omega) | fail) only [↓ptV_l, ↓vcA, vcB, ↓vcD, vcE, ↓reduceIte, Nat.reduceEqDiff, Nat.reduceAdd, Nat.reduceMul, Nat.reduceLeDiff, Int.reduceLE, Int.reduceLT, Int.reduceEq, Int.reduceToNat, Int.reduceAdd, Int.reduceSub, Int.reduceMul, Int.reduceNeg, reduceCtorEq, Option.bind_some, Option.map_some, List.length_cons, List.length_nil, vcM, List.getElem?_toArray, List.getElem?_cons_zero, List.getElem?_cons_succ])
    (refine W_at c32_ok ?_; refine ⟨_, rfl, ?_⟩; simp (disch := first | omega | assumption | rfl | (simp only [vcS] <;> omega) | fail) only [↓ptV_l, ↓vcA, vcB, ↓vcD, vcE, ↓reduceIte, Nat.reduceEqDiff, Nat.reduceAdd, Nat.reduceMul, Nat.reduceLeDiff, Int.reduceLE, Int.reduceLT, Int.reduceEq, Int.reduceToNat, Int.reduceAdd, Int.reduceSub, Int.reduceMul, Int.reduceNeg, reduceCtorEq, Option.bind_some, Option.map_some, List.length_cons, List.length_nil, vcM, List.getElem?_toArray, List.getElem?_cons_zero, List.getElem?_cons_succ])
    (refine W_at c32_ok ?_; refine ⟨_, rfl, ?_⟩; simp (disch := first | omega | assumption | rfl | (simp only [vcS] <;> omega) | fail) only [↓ptV_l, ↓vcA, vcB, ↓vcD, vcE, ↓reduceIte, Nat.reduceEqDiff, Nat.reduceAdd, Nat.reduceMul, Nat.reduceLeDiff, Int.reduceLE, Int.reduceLT, Int.reduceEq, Int.reduceToNat, Int.reduceAdd, Int.reduceSub, Int.reduceMul, Int.reduceNeg, reduceCtorEq, Option.bind_some, Option.map_some, List.length_cons, List.length_nil, vcM, List.getElem?_toArray, List.getElem?_cons_zero, List.getElem?_cons_succ, Ret_returned])
    exact ⟨ByO.nil w, Keep.refl _ w, fun y hy => by cases hy⟩
  · (refine W_at c32_ok ?_; refine ⟨_, rfl, ?_⟩; simp (disch := first | omega | assumption | rfl | (simp only [vcS] <;> omega) | fail) only [↓ptV_l, ↓vcA, vcB, ↓vcD, vcE, ↓reduceIte, Nat.reduceEqDiff, Nat.reduceAdd, Nat.reduceMul, Nat.reduceLeDiff, Int.reduceLE, Int.reduceLT, Int.reduceEq, Int.reduceToNat, Int.reduceAdd, Int.reduceSub, Int.reduceMul, Int.reduceNeg, reduceCtorEq, Option.bind_some, Option.map_some, List.length_cons, List.length_nil, vcM, List.getElem?_toArray, List.getElem?_cons_zero, List.getElem?_cons_succ, eqS_some])
    (refine W_at c32_ok ?_; refine ⟨_, rfl, ?_⟩; simp (disch := first | omega | assumption | rfl | (simp only [vcS] <;> omega) | fail) only [↓ptV_l, ↓vcA, vcB, ↓vcD, vcE, ↓reduceIte, Nat.reduceEqDiff, Nat.reduceAdd, Nat.reduceMul, Nat.reduceLeDiff, Int.reduceLE, Int.reduceLT, Int.reduceEq, Int.reduceToNat, Int.reduceAdd, Int.reduceSub, Int.reduceMul, Int.reduceNeg, reduceCtorEq, Option.bind_some, Option.map_some, List.length_cons, List.length_nil, vcM, List.getElem?_toArray, List.getElem?_cons_zero, List.getElem?_cons_succ])
    (refine W_at c32_ok ?_; refine ⟨_, rfl, ?_⟩; simp (disch := first | omega | assumption | rfl | (simp only [vcS] <;> omega) | fail) only [↓ptV_l, ↓vcA, vcB, ↓vcD, vcE, ↓reduceIte, Nat.reduceEqDiff, Nat.reduceAdd, Nat.reduceMul, Nat.reduceLeDiff, Int.reduceLE, Int.reduceLT, Int.reduceEq, Int.reduceToNat, Int.reduceAdd, Int.reduceSub, Int.reduceMul, Int.reduceNeg, reduceCtorEq, Option.bind_some, Option.map_some, List.length_cons, List.length_nil, vcM, List.getElem?_toArray, List.getElem?_cons_zero, List.getElem?_cons_succ])
    have hE : Ext w (w.alloc (.cells [].toArray 5)) := (Keep.refl _ w).alloc _
    have hO : ByO (w.alloc (.cells [].toArray 5)) (.slice (some ⟨w.heap.size, 0, none⟩) 0 0) [] :=
      ⟨fun _ h => (by cases h), .inr ⟨_, 0, 0, _, rfl, Nat.zero_le _, heap_new _ _ _ rfl, Nat.le_refl _, Nat.zero_le _, by simp, by simp [u8s]⟩⟩
    refine hO.app (h.ext hE) (by simp; omega) fun v' w' k1 k2 k3 => ?_
    rw [List.nil_append] at k1
    first | (simp (disch := first | omega | assumption | rfl | (simp only [vcS] <;> omega) | fail) only [↓ptV_l, ↓vcA, vcB, ↓vcD, vcE, ↓reduceIte, Nat.reduceEqDiff, Nat.reduceAdd, Nat.reduceMul, Nat.reduceLeDiff, Int.reduceLE, Int.reduceLT, Int.reduceEq, Int.reduceToNat, Int.reduceAdd, Int.reduceSub, Int.reduceMul, Int.reduceNeg, reduceCtorEq, Option.bind_some, Option.map_some, List.length_cons, List.length_nil, vcM, List.getElem?_toArray, List.getElem?_cons_zero, List.getElem?_cons_succ]) | skip
    (refine W_at c32_ok ?_; refine ⟨_, rfl, ?_⟩; simp (disch := first | omega | assumption | rfl | (simp only [vcS] <;> omega) | fail) only [↓ptV_l, ↓vcA, vcB, ↓vcD, vcE, ↓reduceIte, Nat.reduceEqDiff, Nat.reduceAdd, Nat.reduceMul, Nat.reduceLeDiff, Int.reduceLE, Int.reduceLT, Int.reduceEq, Int.reduceToNat, Int.reduceAdd, Int.reduceSub, Int.reduceMul, Int.reduceNeg, reduceCtorEq, Option.bind_some, Option.map_some, List.length_cons, List.length_nil, vcM, List.getElem?_toArray, List.getElem?_cons_zero, List.getElem?_cons_succ, Ret_returned])
    refine ⟨k1, hE.trans k2 fun i hi e => ?_, fun y hy => ?_⟩
    · have e' : w.heap.size = i := Option.some.inj e
      omega
    · rcases k3 y hy with e | e
      · have e' : w.heap.size = y := Option.some.inj e
        omega
      · rw [size_alloc] at e; omega
theorem tail_shift (n i : Nat) (hn : n ≤ 1000000000) (hi : i < 8) : cviR .u8 (U64 ((BitVec.ofNat 64 n <<< 3) >>> (8 * i))) = some (.int .u8 ((8 * n / 256 ^ i % 256 : Nat) : Int)) := by
  have e : ((BitVec.ofNat 64 n <<< 3) >>> (8 * i)).toNat = 8 * n / 256 ^ i := by
    rw [BitVec.toNat_ushiftRight, BitVec.toNat_shiftLeft, BitVec.toNat_ofNat, Nat.mod_eq_of_lt (by omega), Nat.shiftLeft_eq, Nat.mod_eq_of_lt (by omega), Nat.shiftRight_eq_div_pow, Nat.pow_mul, Nat.mul_comm n]
  unfold U64
  rw [cvi_i, e, wrap_u8]
  congr 2
theorem be8_get (n i : Nat) (h : i < 8) : (be8 n)[i]? = some ((n / 256 ^ (7 - i) % 256 : Nat) : Int) := by
  unfold be8
  rw [List.getElem?_map, List.getElem?_range h]
  rfl
/-- The tail with its lowest bytes so far. -/
def tailT (n i : Nat) : List Int := 128 :: (List.replicate (63 - (n + 8) % 64 + (8 - i)) 0 ++ (be8 (8 * n)).drop (8 - i))
theorem tailT_8 (n : Nat) : tailT n 8 = padF n := rfl
theorem tailT_len (n i : Nat) (h : i ≤ 8) : (tailT n i).length = 72 - (n + 8) % 64 := by
  simp only [tailT, List.length_cons, List.length_append, List.length_replicate, List.length_drop, be8_len]; omega
theorem tailT_set (n i : Nat) (h : i < 8) : (tailT n i).set (71 - (n + 8) % 64 - i) ((8 * n / 256 ^ i % 256 : Nat) : Int) = tailT n (i + 1) := by
  unfold tailT
  have e1 : 71 - (n + 8) % 64 - i = (63 - (n + 8) % 64 + (7 - i)) + 1 := by omega
  have e2 : 63 - (n + 8) % 64 + (8 - i) = (63 - (n + 8) % 64 + (7 - i)) + 1 := by omega
  have e3 : 8 - (i + 1) = 7 - i := by omega
  have hd : (be8 (8 * n)).drop (7 - i) = ((8 * n / 256 ^ i % 256 : Nat) : Int) :: (be8 (8 * n)).drop (8 - i) := by
    have hg := be8_get (8 * n) (7 - i) (by omega)
    have hlt : 7 - i < (be8 (8 * n)).length := by rw [be8_len]; omega
    rw [List.drop_eq_getElem_cons hlt]
    rw [List.getElem?_eq_getElem hlt] at hg
    rw [Option.some.inj hg]
    have e4 : 7 - (7 - i) = i := by omega
    have e5 : 7 - i + 1 = 8 - i := by omega
    rw [e4, e5]
  rw [e1, e2, e3, hd, List.set_cons_succ, List.replicate_succ', List.append_assoc, List.set_append_right _ _ (by rw [List.length_replicate]; exact Nat.le_refl _), List.length_replicate, Nat.sub_self]
  rfl
set_option maxHeartbeats 1600000 in
theorem tail_ok (w : World) (n : Nat) (hn : n ≤ 1000000000) :
    Calls Try.prog 33 #[.int .u64 (n : Nat), .int .i64 64, .int .i64 8] w (Ret fun u w' => New w w' u (padF n)) := by
  refine calls_of_cfg c33_ok (Nat.le_of_ble_eq_true rfl) ?_
  simp only [argE_nil, argE_cons, Nat.reduceAdd, Nat.zero_add]
  have u1 : IntKind.u64.wrap 64 = 64 := by decide
  have hr : Int.tmod ((n : Nat) : Int) 64 = ((n % 64 : Nat) : Int) := by rw [Int.tmod_eq_emod_of_nonneg (by omega)]; omega
  have w1 : IntKind.i64.wrap ((n % 64 : Nat) : Int) = ((n % 64 : Nat) : Int) := wrap_i64 (by omega) (by omega)
  have w2 : IntKind.i64.wrap (((n % 64 : Nat) : Int) + 8) = ((n % 64 + 8 : Nat) : Int) := by rw [wrap_i64 (by omega) (by omega)]; omega
  have hr2 : Int.tmod ((n % 64 + 8 : Nat) : Int) 64 = (((n + 8) % 64 : Nat) : Int) := by rw [Int.tmod_eq_emod_of_nonneg (by omega)]; omega
  have w3 : IntKind.i64.wrap (63 - (((n + 8) % 64 : Nat) : Int)) = ((63 - (n + 8) % 64 : Nat) : Int) := by rw [wrap_i64 (by omega) (by omega)]; omega
  have w4 : IntKind.i64.wrap (1 + ((63 - (n + 8) % 64 : Nat) : Int)) = ((64 - (n + 8) % 64 : Nat) : Int) := by rw [wrap_i64 (by omega) (by omega)]; omega
  have w5 : IntKind.i64.wrap (((64 - (n + 8) % 64 : Nat) : Int) + 8) = ((72 - (n + 8) % 64 : Nat) : Int) := by rw [wrap_i64 (by omega) (by omega)]; omega
  (refine W_at c33_ok ?_; refine ⟨_, rfl, ?_⟩; simp (disch := first | omega | assumption | rfl | (simp only [vcS] <;> omega) | fail) only [↓ptV_l, ↓vcA, vcB, ↓vcD, vcE, ↓reduceIte, Nat.reduceEqDiff, Nat.reduceAdd, Nat.reduceMul, Nat.reduceLeDiff, Int.reduceLE, Int.reduceLT, Int.reduceEq, Int.reduceToNat, Int.reduceAdd, Int.reduceSub, Int.reduceMul, Int.reduceNeg, reduceCtorEq, Option.bind_some, Option.map_some, List.length_cons, List.length_nil, vcM, List.getElem?_toArray, List.getElem?_cons_zero, List.getElem?_cons_succ])
  have u2 : IntKind.i64.wrap 63 = 63 := by decide
  (refine W_at c33_ok ?_; refine ⟨_, rfl, ?_⟩; simp (disch := first | omega | assumption | rfl | (simp only [vcS] <;> omega) | fail) only [↓ptV_l, ↓vcA, vcB, ↓vcD, vcE, ↓reduceIte, Nat.reduceEqDiff, Nat.reduceAdd, Nat.reduceMul, Nat.reduceLeDiff, Int.reduceLE, Int.reduceLT, Int.reduceEq, Int.reduceToNat, Int.reduceAdd, Int.reduceSub, Int.reduceMul, Int.reduceNeg, reduceCtorEq, Option.bind_some, Option.map_some, List.length_cons, List.length_nil, vcM, List.getElem?_toArray, List.getElem?_cons_zero, List.getElem?_cons_succ, u1, u2, hr, w1, w2, hr2, w3])
  (refine W_at c33_ok ?_; refine ⟨_, rfl, ?_⟩; simp (disch := first | omega | assumption | rfl | (simp only [vcS] <;> omega) | fail) only [↓ptV_l, ↓vcA, vcB, ↓vcD, vcE, ↓reduceIte, Nat.reduceEqDiff, Nat.reduceAdd, Nat.reduceMul, Nat.reduceLeDiff, Int.reduceLE, Int.reduceLT, Int.reduceEq, Int.reduceToNat, Int.reduceAdd, Int.reduceSub, Int.reduceMul, Int.reduceNeg, reduceCtorEq, Option.bind_some, Option.map_some, List.length_cons, List.length_nil, vcM, List.getElem?_toArray, List.getElem?_cons_zero, List.getElem?_cons_succ, w4, w5])
  refine mkB (m := 72 - (n + 8) % 64) (by omega) fun wa hO hE => ?_
  generalize hgv : w.heap.size = gv at hO ⊢
  obtain ⟨L, hL⟩ : ∃ L, L = 72 - (n + 8) % 64 := ⟨_, rfl⟩
  rw [← hL] at hO ⊢
  have hrl : (List.replicate L (0 : Int)).length = L := List.length_replicate
  obtain ⟨hw0, hO0⟩ := hO.set1 (i := 0) (by omega) 128
  have h0L : (0 : Int) < (L : Nat) := by omega
  (refine W_at c33_ok ?_; refine ⟨_, rfl, ?_⟩; simp (disch := first | omega | assumption | rfl | (simp only [vcS] <;> omega) | fail) only [↓ptV_l, ↓vcA, vcB, ↓vcD, vcE, ↓reduceIte, Nat.reduceEqDiff, Nat.reduceAdd, Nat.reduceMul, Nat.reduceLeDiff, Int.reduceLE, Int.reduceLT, Int.reduceEq, Int.reduceToNat, Int.reduceAdd, Int.reduceSub, Int.reduceMul, Int.reduceNeg, reduceCtorEq, Option.bind_some, Option.map_some, List.length_cons, List.length_nil, vcM, List.getElem?_toArray, List.getElem?_cons_zero, List.getElem?_cons_succ, h0L, Nat.zero_add])
  refine ⟨hw0, ?_⟩
  have hset : (List.replicate L (0 : Int)).set 0 128 = tailT n 0 := by
    have e : L = (63 - (n + 8) % 64 + 8) + 1 := by omega
    rw [e, List.replicate_succ, List.set_cons_zero]
    unfold tailT
    rw [List.drop_of_length_le (by rw [be8_len]; exact Nat.le_refl _), List.append_nil]
  rw [hset] at hO0
  have hE0 : Ext w (wa.setCell ⟨gv, 0, none⟩ (.int .u8 128)) := hE.trans ((Keep.refl _ wa).setCell (S := fun x => x = gv) _ fun _ => rfl) fun x hx e => by omega
  generalize World.setCell _ _ _ = wb at hO0 hE0 ⊢
  have hLoop : ∀ (k i : Nat) (wj : World), i + k = 8 → Own1 wj (.slice (some ⟨gv, 0, none⟩) L L) (tailT n i) → Ext w wj →
      W Try.prog (Ret fun u w' => New w w' u (padF n)) 33 11 [(0, .int .u64 (n : Nat)), (2, .int .i64 8), (8, .slice (some ⟨gv, 0, none⟩) L L), (29, .int .i64 (i : Nat))] wj := by
    intro k
    induction k with
    | zero =>
      intro i wj hi hOj hEj
      obtain rfl : i = 8 := by omega
      rw [tailT_8] at hOj
      (refine W_at c33_ok ?_; refine ⟨_, rfl, ?_⟩; simp (disch := first | omega | assumption | rfl | (simp only [vcS] <;> omega) | fail) only [↓ptV_l, ↓vcA, vcB, ↓vcD, vcE, ↓reduceIte, Nat.reduceEqDiff, Nat.reduceAdd, Nat.reduceMul, Nat.reduceLeDiff, Int.reduceLE, Int.reduceLT, Int.reduceEq, Int.reduceToNat, Int.reduceAdd, Int.reduceSub, Int.reduceMul, Int.reduceNeg, reduceCtorEq, Option.bind_some, Option.map_some, List.length_cons, List.length_nil, vcM, List.getElem?_toArray, List.getElem?_cons_zero, List.getElem?_cons_succ])
      (refine W_at c33_ok ?_; refine ⟨_, rfl, ?_⟩; simp (disch := first | omega | assumption | rfl | (simp only [vcS] <;> omega) | fail) only [↓ptV_l, ↓vcA, vcB, ↓vcD, vcE, ↓reduceIte, Nat.reduceEqDiff, Nat.reduceAdd, Nat.reduceMul, Nat.reduceLeDiff, Int.reduceLE, Int.reduceLT, Int.reduceEq, Int.reduceToNat, Int.reduceAdd, Int.reduceSub, Int.reduceMul, Int.reduceNeg, reduceCtorEq, Option.bind_some, Option.map_some, List.length_cons, List.length_nil, vcM, List.getElem?_toArray, List.getElem?_cons_zero, List.getElem?_cons_succ])
      (refine W_at c33_ok ?_; refine ⟨_, rfl, ?_⟩; simp (disch := first | omega | assumption | rfl | (simp only [vcS] <;> omega) | fail) only [↓ptV_l, ↓vcA, vcB, ↓vcD, vcE, ↓reduceIte, Nat.reduceEqDiff, Nat.reduceAdd, Nat.reduceMul, Nat.reduceLeDiff, Int.reduceLE, Int.reduceLT, Int.reduceEq, Int.reduceToNat, Int.reduceAdd, Int.reduceSub, Int.reduceMul, Int.reduceNeg, reduceCtorEq, Option.bind_some, Option.map_some, List.length_cons, List.length_nil, vcM, List.getElem?_toArray, List.getElem?_cons_zero, List.getElem?_cons_succ])
      (refine W_at c33_ok ?_; refine ⟨_, rfl, ?_⟩; simp (disch := first | omega | assumption | rfl | (simp only [vcS] <;> omega) | fail) only [↓ptV_l, ↓vcA, vcB, ↓vcD, vcE, ↓reduceIte, Nat.reduceEqDiff, Nat.reduceAdd, Nat.reduceMul, Nat.reduceLeDiff, Int.reduceLE, Int.reduceLT, Int.reduceEq, Int.reduceToNat, Int.reduceAdd, Int.reduceSub, Int.reduceMul, Int.reduceNeg, reduceCtorEq, Option.bind_some, Option.map_some, List.length_cons, List.length_nil, vcM, List.getElem?_toArray, List.getElem?_cons_zero, List.getElem?_cons_succ])
      (refine W_at c33_ok ?_; refine ⟨_, rfl, ?_⟩; simp (disch := first | omega | assumption | rfl | (simp only [vcS] <;> omega) | fail) only [↓ptV_l, ↓vcA, vcB, ↓vcD, vcE, ↓reduceIte, Nat.reduceEqDiff, Nat.reduceAdd, Nat.reduceMul, Nat.reduceLeDiff, Int.reduceLE, Int.reduceLT, Int.reduceEq, Int.reduceToNat, Int.reduceAdd, Int.reduceSub, Int.reduceMul, Int.reduceNeg, reduceCtorEq, Option.bind_some, Option.map_some, List.length_cons, List.length_nil, vcM, List.getElem?_toArray, List.getElem?_cons_zero, List.getElem?_cons_succ])
      (refine W_at c33_ok ?_; refine ⟨_, rfl, ?_⟩; simp (disch := first | omega | assumption | rfl | (simp only [vcS] <;> omega) | fail) only [↓ptV_l, ↓vcA, vcB, ↓vcD, vcE, ↓reduceIte, Nat.reduceEqDiff, Nat.reduceAdd, Nat.reduceMul, Nat.reduceLeDiff, Int.reduceLE, Int.reduceLT, Int.reduceEq, Int.reduceToNat, Int.reduceAdd, Int.reduceSub, Int.reduceMul, Int.reduceNeg, reduceCtorEq, Option.bind_some, Option.map_some, List.length_cons, List.length_nil, vcM, List.getElem?_toArray, List.getElem?_cons_zero, List.getElem?_cons_succ, Ret_returned])
      exact ⟨hOj, hEj, fun y hy => by have e : gv = y := Option.some.inj hy; omega⟩
    | succ k ih =>
      intro i wj hi hOj hEj
      have hlt : ((i : Nat) : Int) < 8 := by omega
      have hwi : IntKind.i64.wrap (((i : Nat) : Int) + 1) = ((i + 1 : Nat) : Int) := wrap_i64 (by omega) (by omega)
      have htl := tailT_len n i (by omega)
      have hs : binR .shl (.int .u64 ((n : Nat) : Int)) (.int .u64 3) = some (U64 (BitVec.ofNat 64 n <<< 3)) := by rw [U64_of n (by omega)]; exact U64_shl _ .u64 3 (by decide)
      have hw8 : IntKind.i64.wrap (8 * ((i : Nat) : Int)) = ((8 * i : Nat) : Int) := by rw [wrap_i64 (by omega) (by omega)]; omega
      have hsr := U64_shr (BitVec.ofNat 64 n <<< 3) .i64 (8 * i) (by omega)
      have hcv := tail_shift n i hn (by omega)
      have hl1 : IntKind.i64.wrap (((L : Nat) : Int) - 1) = ((L - 1 : Nat) : Int) := by rw [wrap_i64 (by omega) (by omega)]; omega
      have hl2 : IntKind.i64.wrap (((L - 1 : Nat) : Int) - (i : Nat)) = ((71 - (n + 8) % 64 - i : Nat) : Int) := by rw [wrap_i64 (by omega) (by omega)]; omega
      have hidx : 0 ≤ ((71 - (n + 8) % 64 - i : Nat) : Int) ∧ ((71 - (n + 8) % 64 - i : Nat) : Int) < (L : Nat) := by omega
      obtain ⟨hw, hOk⟩ := hOj.set1 (i := 71 - (n + 8) % 64 - i) (by omega) ((8 * n / 256 ^ i % 256 : Nat) : Int)
      rw [tailT_set n i (by omega)] at hOk
      (refine W_at c33_ok ?_; refine ⟨_, rfl, ?_⟩; simp (disch := first | omega | assumption | rfl | (simp only [vcS] <;> omega) | fail) only [↓ptV_l, ↓vcA, vcB, ↓vcD, vcE, ↓reduceIte, Nat.reduceEqDiff, Nat.reduceAdd, Nat.reduceMul, Nat.reduceLeDiff, Int.reduceLE, Int.reduceLT, Int.reduceEq, Int.reduceToNat, Int.reduceAdd, Int.reduceSub, Int.reduceMul, Int.reduceNeg, reduceCtorEq, Option.bind_some, Option.map_some, List.length_cons, List.length_nil, vcM, List.getElem?_toArray, List.getElem?_cons_zero, List.getElem?_cons_succ, hlt])
      (refine W_at c33_ok ?_; refine ⟨_, rfl, ?_⟩; simp (disch := first | omega | assumption | rfl | (simp only [vcS] <;> omega) | fail) only [↓ptV_l, ↓vcA, vcB, ↓vcD, vcE, ↓reduceIte, Nat.reduceEqDiff, Nat.reduceAdd, Nat.reduceMul, Nat.reduceLeDiff, Int.reduceLE, Int.reduceLT, Int.reduceEq, Int.reduceToNat, Int.reduceAdd, Int.reduceSub, Int.reduceMul, Int.reduceNeg, reduceCtorEq, Option.bind_some, Option.map_some, List.length_cons, List.length_nil, vcM, List.getElem?_toArray, List.getElem?_cons_zero, List.getElem?_cons_succ])
      (refine W_at c33_ok ?_; refine ⟨_, rfl, ?_⟩; simp (disch := first | omega | assumption | rfl | (simp only [vcS] <;> omega) | fail) only [↓ptV_l, ↓vcA, vcB, ↓vcD, vcE, ↓reduceIte, Nat.reduceEqDiff, Nat.reduceAdd, Nat.reduceMul, Nat.reduceLeDiff, Int.reduceLE, Int.reduceLT, Int.reduceEq, Int.reduceToNat, Int.reduceAdd, Int.reduceSub, Int.reduceMul, Int.reduceNeg, reduceCtorEq, Option.bind_some, Option.map_some, List.length_cons, List.length_nil, vcM, List.getElem?_toArray, List.getElem?_cons_zero, List.getElem?_cons_succ])
      (refine W_at c33_ok ?_; refine ⟨_, rfl, ?_⟩; simp (disch := first | omega | assumption | rfl | (simp only [vcS] <;> omega) | fail) only [↓ptV_l, ↓vcA, vcB, ↓vcD, vcE, ↓reduceIte, Nat.reduceEqDiff, Nat.reduceAdd, Nat.reduceMul, Nat.reduceLeDiff, Int.reduceLE, Int.reduceLT, Int.reduceEq, Int.reduceToNat, Int.reduceAdd, Int.reduceSub, Int.reduceMul, Int.reduceNeg, reduceCtorEq, Option.bind_some, Option.map_some, List.length_cons, List.length_nil, vcM, List.getElem?_toArray, List.getElem?_cons_zero, List.getElem?_cons_succ, hs, hw8, hsr, hcv, hl1, hl2, hidx, Int.toNat_natCast, Nat.mul_one, Nat.zero_add])
      refine ⟨hw, ?_⟩
      have hEk : Ext w (wj.setCell ⟨gv, 71 - (n + 8) % 64 - i, none⟩ (.int .u8 ((8 * n / 256 ^ i % 256 : Nat) : Int))) := hEj.trans ((Keep.refl _ wj).setCell (S := fun x => x = gv) _ fun _ => rfl) fun x hx e => by omega
      generalize World.setCell _ _ _ = wk at hOk hEk ⊢
      (refine W_at c33_ok ?_; refine ⟨_, rfl, ?_⟩; simp (disch := first | omega | assumption | rfl | (simp only [vcS] <;> omega) | fail) only [↓ptV_l, ↓vcA, vcB, ↓vcD, vcE, ↓reduceIte, Nat.reduceEqDiff, Nat.reduceAdd, Nat.reduceMul, Nat.reduceLeDiff, Int.reduceLE, Int.reduceLT, Int.reduceEq, Int.reduceToNat, Int.reduceAdd, Int.reduceSub, Int.reduceMul, Int.reduceNeg, reduceCtorEq, Option.bind_some, Option.map_some, List.length_cons, List.length_nil, vcM, List.getElem?_toArray, List.getElem?_cons_zero, List.getElem?_cons_succ, hwi])
      (refine W_at c33_ok ?_; refine ⟨_, rfl, ?_⟩; simp (disch := first | omega | assumption | rfl | (simp only [vcS] <;> omega) | fail) only [↓ptV_l, ↓vcA, vcB, ↓vcD, vcE, ↓reduceIte, Nat.reduceEqDiff, Nat.reduceAdd, Nat.reduceMul, Nat.reduceLeDiff, Int.reduceLE, Int.reduceLT, Int.reduceEq, Int.reduceToNat, Int.reduceAdd, Int.reduceSub, Int.reduceMul, Int.reduceNeg, reduceCtorEq, Option.bind_some, Option.map_some, List.length_cons, List.length_nil, vcM, List.getElem?_toArray, List.getElem?_cons_zero, List.getElem?_cons_succ])
      exact ih (i + 1) wk (by omega) hOk hEk
  (refine W_at c33_ok ?_; refine ⟨_, rfl, ?_⟩; simp (disch := first | omega | assumption | rfl | (simp only [vcS] <;> omega) | fail) only [↓ptV_l, ↓vcA, vcB, ↓vcD, vcE, ↓reduceIte, Nat.reduceEqDiff, Nat.reduceAdd, Nat.reduceMul, Nat.reduceLeDiff, Int.reduceLE, Int.reduceLT, Int.reduceEq, Int.reduceToNat, Int.reduceAdd, Int.reduceSub, Int.reduceMul, Int.reduceNeg, reduceCtorEq, Option.bind_some, Option.map_some, List.length_cons, List.length_nil, vcM, List.getElem?_toArray, List.getElem?_cons_zero, List.getElem?_cons_succ])
  exact hLoop 8 0 wb (by omega) hO0 hE0
end Go.Proofs
