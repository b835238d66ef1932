/- Numbers out of bytes. -/
import Derived.Test.YthjijgmhicplaaaSG
set_option linter.unusedSimpArgs false
set_option linter.unusedVariables false
set_option linter.constructorNameAsVariable false
namespace Go.Proofs
open Go.Vc
set_option maxRecDepth 10000

/-- The bytes without the sign. -/
def stripL : List Int → List Int
  | [] => []
  | [x] => [x % 128]
  | x :: t => x :: stripL t
theorem stripL_cons (x y : Int) (t : List Int) : stripL (x :: y :: t) = x :: stripL (y :: t) := rfl
theorem stripL_len : ∀ (b : List Int), (stripL b).length = b.length
  | [] => rfl
  | [x] => rfl
  | x :: y :: t => by rw [stripL_cons, List.length_cons, List.length_cons, stripL_len (y :: t)]
theorem stripL_at : ∀ (b : List Int) (i : Nat) (h : i < b.length) (h' : i < (stripL b).length), (stripL b)[i] = if i + 1 = b.length then b[i] % 128 else b[i]
  | [], i, h, _ => by simp at h
  | [x], i, h, h' => by
    have e : i = 0 := by simpa using h
    subst e; rfl
  | x :: y :: t, 0, h, h' => by
    rw [if_neg (by rw [List.length_cons, List.length_cons]; omega)]; rfl
  | x :: y :: t, i + 1, h, h' => by
    have h1 : i < (y :: t).length := by rw [List.length_cons] at h; omega
    have h2 : i < (stripL (y :: t)).length := by rw [stripL_len]; exact h1
    have ih := stripL_at (y :: t) i h1 h2
    have e1 : (stripL (x :: y :: t))[i + 1]'h' = (stripL (y :: t))[i]'h2 := rfl
    have e2 : (x :: y :: t)[i + 1]'h = (y :: t)[i]'h1 := rfl
    rw [e1, e2, ih]
    by_cases hc : i + 1 = (y :: t).length
    · rw [if_pos hc, if_pos (by rw [List.length_cons]; omega)]
    · rw [if_neg hc, if_neg (by rw [List.length_cons]; omega)]
theorem stripL_byt : ∀ {b : List Int}, byt b → byt (stripL b)
  | [], _ => byt_nil
  | [x], hb => fun z hz => by
    have := hb x (by simp)
    simp [stripL] at hz; omega
  | x :: y :: t, hb => fun z hz => by
    rw [stripL_cons] at hz
    rcases List.mem_cons.1 hz with rfl | h
    · exact hb z (by simp)
    · exact stripL_byt (fun u hu => hb u (List.mem_cons_of_mem _ hu)) z h
theorem mag_strip : ∀ (b : List Int), magF b = valF (stripL b)
  | [] => rfl
  | [x] => by show x % 128 = x % 128 + 256 * 0; omega
  | x :: y :: t => by rw [magF_cons, stripL_cons, valF, mag_strip (y :: t)]
theorem negF_snoc (x : Int) : ∀ (l : List Int), negF (l ++ [x]) = decide (128 ≤ x)
  | [] => rfl
  | [y] => rfl
  | y :: z :: t => by rw [List.cons_append, List.cons_append, negF_cons, ← List.cons_append, negF_snoc x (z :: t)]
theorem okF_snoc (y x : Int) : ∀ (l : List Int), okF (l ++ [y, x]) = decide (x % 128 ≠ 0 ∨ 128 ≤ y)
  | [] => rfl
  | [z] => rfl
  | z :: u :: t => by
    have h : okF (z :: u :: t ++ [y, x]) = okF (u :: t ++ [y, x]) := by
      cases t <;> rfl
    rw [h, okF_snoc y x (u :: t)]
theorem or_addi {x c : Int} {i : Nat} (hx : 0 ≤ x ∧ x < 256 ^ i) (hc : 0 ≤ c ∧ c ≤ 255) (hi : i < 8) (hm : x + c * 256 ^ i ≤ 9223372036854775807) :
    IntKind.i64.wrap (((BitVec.ofInt IntKind.i64.bits x ||| BitVec.ofInt IntKind.i64.bits (c * 256 ^ i)).toNat : Nat) : Int) = x + c * 256 ^ i := by
  have h := or_add hx hc hi
  have hb : IntKind.i64.bits = IntKind.u64.bits := rfl
  rw [hb]
  generalize hN : (BitVec.ofInt IntKind.u64.bits x ||| BitVec.ofInt IntKind.u64.bits (c * 256 ^ i)).toNat = N at h ⊢
  have hlt : N < 2 ^ 64 := by rw [← hN]; exact BitVec.isLt _
  rw [wrap_u64] at h
  have e : (N : Int) = x + c * 256 ^ i := by omega
  have h5 : 0 ≤ c * (256 : Int) ^ i := Int.mul_nonneg hc.1 (Int.le_of_lt (Int.pow_pos (by decide)))
  rw [e]
  exact wrap_i64 (by omega) (by omega)
theorem andn128 {x : Int} (h : 0 ≤ x ∧ x ≤ 255) : IntKind.u8.wrap (((BitVec.ofInt IntKind.u8.bits x &&& ~~~BitVec.ofInt IntKind.u8.bits 128).toNat : Nat) : Int) = x % 128 := by
  obtain ⟨X, rfl⟩ := Int.eq_ofNat_of_zero_le h.1
  have hd : ∀ n : Fin 256, IntKind.u8.wrap (((BitVec.ofInt IntKind.u8.bits ((n.val : Nat) : Int) &&& ~~~BitVec.ofInt IntKind.u8.bits 128).toNat : Nat) : Int) = ((n.val : Nat) : Int) % 128 := by decide +kernel
  exact hd ⟨X, by omega⟩
theorem mag_lt {b : List Int} (hb : byt b) (hl : b.length ≤ 8) : 0 ≤ magF b ∧ magF b ≤ 9223372036854775807 := by
  by_cases h0 : b = []
  · subst h0; exact ⟨Int.le_refl 0, by decide⟩
  · have hr := magF_r hb h0
    have hp : (256 : Int) ^ b.length ≤ 256 ^ 8 := pow256_le hl
    have h8 : (256 : Int) ^ 8 = 18446744073709551616 := rfl
    omega
theorem sval_r {b : List Int} (hb : byt b) (hl : b.length ≤ 8) : -9223372036854775807 ≤ svalF b ∧ svalF b ≤ 9223372036854775807 := by
  have := mag_lt hb hl
  unfold svalF; split <;> omega
set_option maxHeartbeats 1600000 in
theorem from_ok (w : World) (x : Value) (bs : List Int) (most : Int) (hx : Rd w x bs) (hb : byt bs) (hl : bs.length ≤ 1000000) (hm : -9223372036854775808 ≤ most ∧ most ≤ 9223372036854775807) :
    Calls Try.prog 30 #[x, .int .i64 most] w (Ret fun u w' => u = .tuple #[.int .i64 (fromF bs most).1, .int .i64 (fromF bs most).2] ∧ Ext w w') := by
  refine calls_of_cfg c30_ok (Nat.le_of_ble_eq_true rfl) ?_
  simp only [argE_nil, argE_cons, Nat.reduceAdd, Nat.zero_add]
  have hlen := hx.len
  (refine W_at c30_ok ?_; refine ⟨_, rfl, ?_⟩; simp (disch := first | omega | assumption | rfl | (simp only [vcS] <;> omega) | fail) only [↓ptV_l, ↓vcA, vcB, ↓vcD, vcE, ↓reduceIte, Nat.reduceEqDiff, Nat.reduceAdd, Nat.reduceMul, Nat.reduceLeDiff, Int.reduceLE, Int.reduceLT, Int.reduceEq, Int.reduceToNat, Int.reduceAdd, Int.reduceSub, Int.reduceMul, Int.reduceNeg, reduceCtorEq, Option.bind_some, Option.map_some, List.length_cons, List.length_nil, vcM, List.getElem?_toArray, List.getElem?_cons_zero, List.getElem?_cons_succ])
  by_cases hbig : (bs.length : Int) > min most 8
  · have hf : fromF bs most = (0, 2) := by rw [fromF, if_pos (by omega)]
    (refine W_at c30_ok ?_; refine ⟨_, rfl, ?_⟩; simp (disch := first | omega | assumption | rfl | (simp only [vcS] <;> omega) | fail) only [↓ptV_l, ↓vcA, vcB, ↓vcD, vcE, ↓reduceIte, Nat.reduceEqDiff, Nat.reduceAdd, Nat.reduceMul, Nat.reduceLeDiff, Int.reduceLE, Int.reduceLT, Int.reduceEq, Int.reduceToNat, Int.reduceAdd, Int.reduceSub, Int.reduceMul, Int.reduceNeg, reduceCtorEq, Option.bind_some, Option.map_some, List.length_cons, List.length_nil, vcM, List.getElem?_toArray, List.getElem?_cons_zero, List.getElem?_cons_succ, hlen, hbig])
    (refine W_at c30_ok ?_; refine ⟨_, rfl, ?_⟩; simp (disch := first | omega | assumption | rfl | (simp only [vcS] <;> omega) | fail) only [↓ptV_l, ↓vcA, vcB, ↓vcD, vcE, ↓reduceIte, Nat.reduceEqDiff, Nat.reduceAdd, Nat.reduceMul, Nat.reduceLeDiff, Int.reduceLE, Int.reduceLT, Int.reduceEq, Int.reduceToNat, Int.reduceAdd, Int.reduceSub, Int.reduceMul, Int.reduceNeg, reduceCtorEq, Option.bind_some, Option.map_some, List.length_cons, List.length_nil, vcM, List.getElem?_toArray, List.getElem?_cons_zero, List.getElem?_cons_succ])
    (refine W_at c30_ok ?_; refine ⟨_, rfl, ?_⟩; simp (disch := first | omega | assumption | rfl | (simp only [vcS] <;> omega) | fail) only [↓ptV_l, ↓vcA, vcB, ↓vcD, vcE, ↓reduceIte, Nat.reduceEqDiff, Nat.reduceAdd, Nat.reduceMul, Nat.reduceLeDiff, Int.reduceLE, Int.reduceLT, Int.reduceEq, Int.reduceToNat, Int.reduceAdd, Int.reduceSub, Int.reduceMul, Int.reduceNeg, reduceCtorEq, Option.bind_some, Option.map_some, List.length_cons, List.length_nil, vcM, List.getElem?_toArray, List.getElem?_cons_zero, List.getElem?_cons_succ])
    (refine W_at c30_ok ?_; refine ⟨_, rfl, ?_⟩; simp (disch := first | omega | assumption | rfl | (simp only [vcS] <;> omega) | fail) only [↓ptV_l, ↓vcA, vcB, ↓vcD, vcE, ↓reduceIte, Nat.reduceEqDiff, Nat.reduceAdd, Nat.reduceMul, Nat.reduceLeDiff, Int.reduceLE, Int.reduceLT, Int.reduceEq, Int.reduceToNat, Int.reduceAdd, Int.reduceSub, Int.reduceMul, Int.reduceNeg, reduceCtorEq, Option.bind_some, Option.map_some, List.length_cons, List.length_nil, vcM, List.getElem?_toArray, List.getElem?_cons_zero, List.getElem?_cons_succ, Ret_returned])
    exact ⟨by rw [hf], Keep.refl _ w⟩
  have hl8 : bs.length ≤ 8 := by omega
  have hf : fromF bs most = if okF bs then (svalF bs, 0) else (0, 3) := by rw [fromF, if_neg (by omega)]
  (refine W_at c30_ok ?_; refine ⟨_, rfl, ?_⟩; simp (disch := first | omega | assumption | rfl | (simp only [vcS] <;> omega) | fail) only [↓ptV_l, ↓vcA, vcB, ↓vcD, vcE, ↓reduceIte, Nat.reduceEqDiff, Nat.reduceAdd, Nat.reduceMul, Nat.reduceLeDiff, Int.reduceLE, Int.reduceLT, Int.reduceEq, Int.reduceToNat, Int.reduceAdd, Int.reduceSub, Int.reduceMul, Int.reduceNeg, reduceCtorEq, Option.bind_some, Option.map_some, List.length_cons, List.length_nil, vcM, List.getElem?_toArray, List.getElem?_cons_zero, List.getElem?_cons_succ, hlen, hbig])
  (refine W_at c30_ok ?_; refine ⟨_, rfl, ?_⟩; simp (disch := first | omega | assumption | rfl | (simp only [vcS] <;> omega) | fail) only [↓ptV_l, ↓vcA, vcB, ↓vcD, vcE, ↓reduceIte, Nat.reduceEqDiff, Nat.reduceAdd, Nat.reduceMul, Nat.reduceLeDiff, Int.reduceLE, Int.reduceLT, Int.reduceEq, Int.reduceToNat, Int.reduceAdd, Int.reduceSub, Int.reduceMul, Int.reduceNeg, reduceCtorEq, Option.bind_some, Option.map_some, List.length_cons, List.length_nil, vcM, List.getElem?_toArray, List.getElem?_cons_zero, List.getElem?_cons_succ])
  (refine W_at c30_ok ?_; refine ⟨_, rfl, ?_⟩; simp (disch := first | omega | assumption | rfl | (simp only [vcS] <;> omega) | fail) only [↓ptV_l, ↓vcA, vcB, ↓vcD, vcE, ↓reduceIte, Nat.reduceEqDiff, Nat.reduceAdd, Nat.reduceMul, Nat.reduceLeDiff, Int.reduceLE, Int.reduceLT, Int.reduceEq, Int.reduceToNat, Int.reduceAdd, Int.reduceSub, Int.reduceMul, Int.reduceNeg, reduceCtorEq, Option.bind_some, Option.map_some, List.length_cons, List.length_nil, vcM, List.getElem?_toArray, List.getElem?_cons_zero, List.getElem?_cons_succ])
  (refine W_at c30_ok ?_; refine ⟨_, rfl, ?_⟩; simp (disch := first | omega | assumption | rfl | (simp only [vcS] <;> omega) | fail) only [↓ptV_l, ↓vcA, vcB, ↓vcD, vcE, ↓reduceIte, Nat.reduceEqDiff, Nat.reduceAdd, Nat.reduceMul, Nat.reduceLeDiff, Int.reduceLE, Int.reduceLT, Int.reduceEq, Int.reduceToNat, Int.reduceAdd, Int.reduceSub, Int.reduceMul, Int.reduceNeg, reduceCtorEq, Option.bind_some, Option.map_some, List.length_cons, List.length_nil, vcM, List.getElem?_toArray, List.getElem?_cons_zero, List.getElem?_cons_succ, hlen])
  have hsl := stripL_len bs
  have hsb := stripL_byt hb
  have hmag := mag_lt hb hl8
  have hsv := sval_r hb hl8
  -- behind the loop
  have hend : ∀ (s : Env), W Try.prog (Ret fun u w' => u = .tuple #[.int .i64 (fromF bs most).1, .int .i64 (fromF bs most).2] ∧ Ext w w') 30 6 ((0, x) :: (6, .int .i64 (svalF bs)) :: s) w := by
    intro s
    (refine W_at c30_ok ?_; refine ⟨_, rfl, ?_⟩; simp (disch := first | omega | assumption | rfl | (simp only [vcS] <;> omega) | fail) only [↓ptV_l, ↓vcA, vcB, ↓vcD, vcE, ↓reduceIte, Nat.reduceEqDiff, Nat.reduceAdd, Nat.reduceMul, Nat.reduceLeDiff, Int.reduceLE, Int.reduceLT, Int.reduceEq, Int.reduceToNat, Int.reduceAdd, Int.reduceSub, Int.reduceMul, Int.reduceNeg, reduceCtorEq, Option.bind_some, Option.map_some, List.length_cons, List.length_nil, vcM, List.getElem?_toArray, List.getElem?_cons_zero, List.getElem?_cons_succ])
    refine callV_ret (number_ok' w (svalF bs) (by omega)) ?_
    intro u w1 hN
    first | (simp (disch := first | omega | assumption | rfl | (simp only [vcS] <;> omega) | fail) only [↓ptV_l, ↓vcA, vcB, ↓vcD, vcE, ↓reduceIte, Nat.reduceEqDiff, Nat.reduceAdd, Nat.reduceMul, Nat.reduceLeDiff, Int.reduceLE, Int.reduceLT, Int.reduceEq, Int.reduceToNat, Int.reduceAdd, Int.reduceSub, Int.reduceMul, Int.reduceNeg, reduceCtorEq, Option.bind_some, Option.map_some, List.length_cons, List.length_nil, vcM, List.getElem?_toArray, List.getElem?_cons_zero, List.getElem?_cons_succ]) | skip
    refine callV_ret (beq_ok w1 u x _ _ hN.own.rd (hx.ext hN.ext) (numF_byt _) hb) ?_
    rintro _ wq ⟨rfl, hw⟩
    obtain rfl : w1 = wq := hw.symm
    have hd : decide (numF (svalF bs) = bs) = okF bs := by
      have := num_sval hb hl8
      cases hok : okF bs with
      | true => exact decide_eq_true (this.2 hok)
      | false => exact decide_eq_false fun h => by have := this.1 h; rw [hok] at this; cases this
    rw [hd]
    cases hok : okF bs with
    | true =>
      rw [hok] at hf
      simp (disch := first | omega | assumption | rfl | (simp only [vcS] <;> omega) | fail) only [↓ptV_l, ↓vcA, vcB, ↓vcD, vcE, ↓reduceIte, Nat.reduceEqDiff, Nat.reduceAdd, Nat.reduceMul, Nat.reduceLeDiff, Int.reduceLE, Int.reduceLT, Int.reduceEq, Int.reduceToNat, Int.reduceAdd, Int.reduceSub, Int.reduceMul, Int.reduceNeg, reduceCtorEq, Option.bind_some, Option.map_some, List.length_cons, List.length_nil, vcM, List.getElem?_toArray, List.getElem?_cons_zero, List.getElem?_cons_succ]
      (refine W_at c30_ok ?_; refine ⟨_, rfl, ?_⟩; simp (disch := first | omega | assumption | rfl | (simp only [vcS] <;> omega) | fail) only [↓ptV_l, ↓vcA, vcB, ↓vcD, vcE, ↓reduceIte, Nat.reduceEqDiff, Nat.reduceAdd, Nat.reduceMul, Nat.reduceLeDiff, Int.reduceLE, Int.reduceLT, Int.reduceEq, Int.reduceToNat, Int.reduceAdd, Int.reduceSub, Int.reduceMul, Int.reduceNeg, reduceCtorEq, Option.bind_some, Option.map_some, List.length_cons, List.length_nil, vcM, List.getElem?_toArray, List.getElem?_cons_zero, List.getElem?_cons_succ])
      (refine W_at c30_ok ?_; refine ⟨_, rfl, ?_⟩; simp (disch := first | omega | assumption | rfl | (simp only [vcS] <;> omega) | fail) only [↓ptV_l, ↓vcA, vcB, ↓vcD, vcE, ↓reduceIte, Nat.reduceEqDiff, Nat.reduceAdd, Nat.reduceMul, Nat.reduceLeDiff, Int.reduceLE, Int.reduceLT, Int.reduceEq, Int.reduceToNat, Int.reduceAdd, Int.reduceSub, Int.reduceMul, Int.reduceNeg, reduceCtorEq, Option.bind_some, Option.map_some, List.length_cons, List.length_nil, vcM, List.getElem?_toArray, List.getElem?_cons_zero, List.getElem?_cons_succ])
      (refine W_at c30_ok ?_; refine ⟨_, rfl, ?_⟩; simp (disch := first | omega | assumption | rfl | (simp only [vcS] <;> omega) | fail) only [↓ptV_l, ↓vcA, vcB, ↓vcD, vcE, ↓reduceIte, Nat.reduceEqDiff, Nat.reduceAdd, Nat.reduceMul, Nat.reduceLeDiff, Int.reduceLE, Int.reduceLT, Int.reduceEq, Int.reduceToNat, Int.reduceAdd, Int.reduceSub, Int.reduceMul, Int.reduceNeg, reduceCtorEq, Option.bind_some, Option.map_some, List.length_cons, List.length_nil, vcM, List.getElem?_toArray, List.getElem?_cons_zero, List.getElem?_cons_succ, Ret_returned])
      exact ⟨by rw [hf]; rfl, hN.ext⟩
    | false =>
      rw [hok] at hf
      simp (disch := first | omega | assumption | rfl | (simp only [vcS] <;> omega) | fail) only [↓ptV_l, ↓vcA, vcB, ↓vcD, vcE, ↓reduceIte, Nat.reduceEqDiff, Nat.reduceAdd, Nat.reduceMul, Nat.reduceLeDiff, Int.reduceLE, Int.reduceLT, Int.reduceEq, Int.reduceToNat, Int.reduceAdd, Int.reduceSub, Int.reduceMul, Int.reduceNeg, reduceCtorEq, Option.bind_some, Option.map_some, List.length_cons, List.length_nil, vcM, List.getElem?_toArray, List.getElem?_cons_zero, List.getElem?_cons_succ]
      (refine W_at c30_ok ?_; refine ⟨_, rfl, ?_⟩; simp (disch := first | omega | assumption | rfl | (simp only [vcS] <;> omega) | fail) only [↓ptV_l, ↓vcA, vcB, ↓vcD, vcE, ↓reduceIte, Nat.reduceEqDiff, Nat.reduceAdd, Nat.reduceMul, Nat.reduceLeDiff, Int.reduceLE, Int.reduceLT, Int.reduceEq, Int.reduceToNat, Int.reduceAdd, Int.reduceSub, Int.reduceMul, Int.reduceNeg, reduceCtorEq, Option.bind_some, Option.map_some, List.length_cons, List.length_nil, vcM, List.getElem?_toArray, List.getElem?_cons_zero, List.getElem?_cons_succ])
      (refine W_at c30_ok ?_; refine ⟨_, rfl, ?_⟩; simp (disch := first | omega | assumption | rfl | (simp only [vcS] <;> omega) | fail) only [↓ptV_l, ↓vcA, vcB, ↓vcD, vcE, ↓reduceIte, Nat.reduceEqDiff, Nat.reduceAdd, Nat.reduceMul, Nat.reduceLeDiff, Int.reduceLE, Int.reduceLT, Int.reduceEq, Int.reduceToNat, Int.reduceAdd, Int.reduceSub, Int.reduceMul, Int.reduceNeg, reduceCtorEq, Option.bind_some, Option.map_some, List.length_cons, List.length_nil, vcM, List.getElem?_toArray, List.getElem?_cons_zero, List.getElem?_cons_succ])
      (refine W_at c30_ok ?_; refine ⟨_, rfl, ?_⟩; simp (disch := first | omega | assumption | rfl | (simp only [vcS] <;> omega) | fail) only [↓ptV_l, ↓vcA, vcB, ↓vcD, vcE, ↓reduceIte, Nat.reduceEqDiff, Nat.reduceAdd, Nat.reduceMul, Nat.reduceLeDiff, Int.reduceLE, Int.reduceLT, Int.reduceEq, Int.reduceToNat, Int.reduceAdd, Int.reduceSub, Int.reduceMul, Int.reduceNeg, reduceCtorEq, Option.bind_some, Option.map_some, List.length_cons, List.length_nil, vcM, List.getElem?_toArray, List.getElem?_cons_zero, List.getElem?_cons_succ, Ret_returned])
      exact ⟨by rw [hf]; rfl, hN.ext⟩
  have hsign : ∀ (s : Env), W Try.prog (Ret fun u w' => u = .tuple #[.int .i64 (fromF bs most).1, .int .i64 (fromF bs most).2] ∧ Ext w w') 30 9 ((0, x) :: (6, .int .i64 (magF bs)) :: s) w := by
    intro s
    rcases snoc_cases bs with hnil | ⟨init, z, hsn⟩
    · have hgt : ¬ ((bs.length : Nat) : Int) > 0 := by rw [hnil]; simp
      have he : svalF bs = magF bs := by rw [hnil]; rfl
      rw [he] at hend
      (refine W_at c30_ok ?_; refine ⟨_, rfl, ?_⟩; simp (disch := first | omega | assumption | rfl | (simp only [vcS] <;> omega) | fail) only [↓ptV_l, ↓vcA, vcB, ↓vcD, vcE, ↓reduceIte, Nat.reduceEqDiff, Nat.reduceAdd, Nat.reduceMul, Nat.reduceLeDiff, Int.reduceLE, Int.reduceLT, Int.reduceEq, Int.reduceToNat, Int.reduceAdd, Int.reduceSub, Int.reduceMul, Int.reduceNeg, reduceCtorEq, Option.bind_some, Option.map_some, List.length_cons, List.length_nil, vcM, List.getElem?_toArray, List.getElem?_cons_zero, List.getElem?_cons_succ, hlen, hgt])
      (refine W_at c30_ok ?_; refine ⟨_, rfl, ?_⟩; simp (disch := first | omega | assumption | rfl | (simp only [vcS] <;> omega) | fail) only [↓ptV_l, ↓vcA, vcB, ↓vcD, vcE, ↓reduceIte, Nat.reduceEqDiff, Nat.reduceAdd, Nat.reduceMul, Nat.reduceLeDiff, Int.reduceLE, Int.reduceLT, Int.reduceEq, Int.reduceToNat, Int.reduceAdd, Int.reduceSub, Int.reduceMul, Int.reduceNeg, reduceCtorEq, Option.bind_some, Option.map_some, List.length_cons, List.length_nil, vcM, List.getElem?_toArray, List.getElem?_cons_zero, List.getElem?_cons_succ])
      exact hend _
    · have hl1 : bs.length = init.length + 1 := by rw [hsn]; simp
      have hgt : ((bs.length : Nat) : Int) > 0 := by omega
      have hws : IntKind.i64.wrap (((bs.length : Nat) : Int) - 1) = (init.length : Nat) := by rw [wrap_i64 (by omega) (by omega)]; omega
      have hi2 : 0 ≤ (init.length : Int) ∧ (init.length : Int) < (bs.length : Nat) := by omega
      obtain ⟨b, o, c, rfl, hcell⟩ := hx.at (i := init.length) (by omega)
      have hz : bs[init.length]'(by omega) = z := by
        have : bs[init.length]? = some z := by rw [hsn]; simp
        rw [List.getElem?_eq_getElem (by omega)] at this
        exact Option.some.inj this
      rw [hz] at hcell
      have hzb := hb z (by rw [hsn]; simp)
      have hng : negF bs = decide (128 ≤ z) := by rw [hsn]; exact negF_snoc z init
      have hand := and128 hzb
      by_cases h128 : 128 ≤ z
      · rw [if_pos h128] at hand
        have he : svalF bs = -magF bs := by rw [svalF, hng, decide_eq_true h128]; rfl
        have hwn : IntKind.i64.wrap (0 - magF bs) = -magF bs := by rw [wrap_i64 (by omega) (by omega)]; omega
        rw [he] at hend
        have h3 : ¬ ((128 : Int) = 0) := by decide
        (refine W_at c30_ok ?_; refine ⟨_, rfl, ?_⟩; simp (disch := first | omega | assumption | rfl | (simp only [vcS] <;> omega) | fail) only [↓ptV_l, ↓vcA, vcB, ↓vcD, vcE, ↓reduceIte, Nat.reduceEqDiff, Nat.reduceAdd, Nat.reduceMul, Nat.reduceLeDiff, Int.reduceLE, Int.reduceLT, Int.reduceEq, Int.reduceToNat, Int.reduceAdd, Int.reduceSub, Int.reduceMul, Int.reduceNeg, reduceCtorEq, Option.bind_some, Option.map_some, List.length_cons, List.length_nil, vcM, List.getElem?_toArray, List.getElem?_cons_zero, List.getElem?_cons_succ, hlen, hgt, hws, hi2, Int.toNat_natCast, Nat.mul_one, hcell, hand, h3])
        (refine W_at c30_ok ?_; refine ⟨_, rfl, ?_⟩; simp (disch := first | omega | assumption | rfl | (simp only [vcS] <;> omega) | fail) only [↓ptV_l, ↓vcA, vcB, ↓vcD, vcE, ↓reduceIte, Nat.reduceEqDiff, Nat.reduceAdd, Nat.reduceMul, Nat.reduceLeDiff, Int.reduceLE, Int.reduceLT, Int.reduceEq, Int.reduceToNat, Int.reduceAdd, Int.reduceSub, Int.reduceMul, Int.reduceNeg, reduceCtorEq, Option.bind_some, Option.map_some, List.length_cons, List.length_nil, vcM, List.getElem?_toArray, List.getElem?_cons_zero, List.getElem?_cons_succ])
        (refine W_at c30_ok ?_; refine ⟨_, rfl, ?_⟩; simp (disch := first | omega | assumption | rfl | (simp only [vcS] <;> omega) | fail) only [↓ptV_l, ↓vcA, vcB, ↓vcD, vcE, ↓reduceIte, Nat.reduceEqDiff, Nat.reduceAdd, Nat.reduceMul, Nat.reduceLeDiff, Int.reduceLE, Int.reduceLT, Int.reduceEq, Int.reduceToNat, Int.reduceAdd, Int.reduceSub, Int.reduceMul, Int.reduceNeg, reduceCtorEq, Option.bind_some, Option.map_some, List.length_cons, List.length_nil, vcM, List.getElem?_toArray, List.getElem?_cons_zero, List.getElem?_cons_succ, hwn])
        exact hend _
      · rw [if_neg h128] at hand
        have he : svalF bs = magF bs := by rw [svalF, hng, decide_eq_false h128]; rfl
        rw [he] at hend
        (refine W_at c30_ok ?_; refine ⟨_, rfl, ?_⟩; simp (disch := first | omega | assumption | rfl | (simp only [vcS] <;> omega) | fail) only [↓ptV_l, ↓vcA, vcB, ↓vcD, vcE, ↓reduceIte, Nat.reduceEqDiff, Nat.reduceAdd, Nat.reduceMul, Nat.reduceLeDiff, Int.reduceLE, Int.reduceLT, Int.reduceEq, Int.reduceToNat, Int.reduceAdd, Int.reduceSub, Int.reduceMul, Int.reduceNeg, reduceCtorEq, Option.bind_some, Option.map_some, List.length_cons, List.length_nil, vcM, List.getElem?_toArray, List.getElem?_cons_zero, List.getElem?_cons_succ, hlen, hgt, hws, hi2, Int.toNat_natCast, Nat.mul_one, hcell, hand])
        (refine W_at c30_ok ?_; refine ⟨_, rfl, ?_⟩; simp (disch := first | omega | assumption | rfl | (simp only [vcS] <;> omega) | fail) only [↓ptV_l, ↓vcA, vcB, ↓vcD, vcE, ↓reduceIte, Nat.reduceEqDiff, Nat.reduceAdd, Nat.reduceMul, Nat.reduceLeDiff, Int.reduceLE, Int.reduceLT, Int.reduceEq, Int.reduceToNat, Int.reduceAdd, Int.reduceSub, Int.reduceMul, Int.reduceNeg, reduceCtorEq, Option.bind_some, Option.map_some, List.length_cons, List.length_nil, vcM, List.getElem?_toArray, List.getElem?_cons_zero, List.getElem?_cons_succ])
        exact hend _
  have L : ∀ (k i : Nat), k + i = bs.length → W Try.prog (Ret fun u w' => u = .tuple #[.int .i64 (fromF bs most).1, .int .i64 (fromF bs most).2] ∧ Ext w w') 30 18 [(0, x), (6, .int .i64 (valF ((stripL bs).take i))), (14, x), (15, .int .i64 (bs.length : Nat)), (16, .int .i64 i)] w := by
    intro k
    induction k with
    | zero =>
      intro i hi
      have hlt : ¬ ((i : Int) < (bs.length : Nat)) := by omega
      have he : valF ((stripL bs).take i) = magF bs := by rw [List.take_of_length_le (by omega), ← mag_strip]
      rw [he]
      (refine W_at c30_ok ?_; refine ⟨_, rfl, ?_⟩; simp (disch := first | omega | assumption | rfl | (simp only [vcS] <;> omega) | fail) only [↓ptV_l, ↓vcA, vcB, ↓vcD, vcE, ↓reduceIte, Nat.reduceEqDiff, Nat.reduceAdd, Nat.reduceMul, Nat.reduceLeDiff, Int.reduceLE, Int.reduceLT, Int.reduceEq, Int.reduceToNat, Int.reduceAdd, Int.reduceSub, Int.reduceMul, Int.reduceNeg, reduceCtorEq, Option.bind_some, Option.map_some, List.length_cons, List.length_nil, vcM, List.getElem?_toArray, List.getElem?_cons_zero, List.getElem?_cons_succ, hlt])
      (refine W_at c30_ok ?_; refine ⟨_, rfl, ?_⟩; simp (disch := first | omega | assumption | rfl | (simp only [vcS] <;> omega) | fail) only [↓ptV_l, ↓vcA, vcB, ↓vcD, vcE, ↓reduceIte, Nat.reduceEqDiff, Nat.reduceAdd, Nat.reduceMul, Nat.reduceLeDiff, Int.reduceLE, Int.reduceLT, Int.reduceEq, Int.reduceToNat, Int.reduceAdd, Int.reduceSub, Int.reduceMul, Int.reduceNeg, reduceCtorEq, Option.bind_some, Option.map_some, List.length_cons, List.length_nil, vcM, List.getElem?_toArray, List.getElem?_cons_zero, List.getElem?_cons_succ])
      exact hsign _
    | succ k ih =>
      intro i hi
      have hil : i < bs.length := by omega
      have hils : i < (stripL bs).length := by omega
      have hlt : (i : Int) < (bs.length : Nat) := by omega
      have hi2 : 0 ≤ (i : Int) ∧ (i : Int) < (bs.length : Nat) := by omega
      have hwi : IntKind.i64.wrap ((i : Int) + 1) = ((i + 1 : Nat) : Int) := wrap_i64 (by omega) (by omega)
      have hws : IntKind.i64.wrap (((bs.length : Nat) : Int) - 1) = (bs.length : Int) - 1 := wrap_i64 (by omega) (by omega)
      obtain ⟨b, o, c, rfl, hcell⟩ := hx.at hil
      have hbi := hb bs[i] (List.getElem_mem hil)
      have hat := stripL_at bs i hil hils
      have hsbi := hsb _ (List.getElem_mem hils)
      have hv := valF_lt (byt_take hsb i)
      have htl : ((stripL bs).take i).length = i := by rw [List.length_take]; omega
      rw [htl] at hv
      have hnx : valF ((stripL bs).take i) + (stripL bs)[i] * 256 ^ i = valF ((stripL bs).take (i + 1)) := by
        rw [List.take_succ_eq_append_getElem hils, valF_snoc, htl]
      have hbnd : valF ((stripL bs).take (i + 1)) ≤ 9223372036854775807 := by
        by_cases hlast : i + 1 = bs.length
        · rw [List.take_of_length_le (by omega), ← mag_strip]; exact hmag.2
        · have h1 := valF_lt (byt_take hsb (i + 1))
          have h2 : (256 : Int) ^ ((stripL bs).take (i + 1)).length ≤ 256 ^ 7 := pow256_le (by rw [List.length_take]; omega)
          have h7 : (256 : Int) ^ 7 = 72057594037927936 := rfl
          omega
      have hor := or_addi hv hsbi (by omega : i < 8) (by rw [hnx]; exact hbnd)
      have h5 : 0 ≤ (stripL bs)[i] * (256 : Int) ^ i := Int.mul_nonneg hsbi.1 (Int.le_of_lt (Int.pow_pos (by decide)))
      have hm8 : IntKind.i64.wrap (8 * (i : Int)) = 8 * (i : Int) := wrap_i64 (by omega) (by omega)
      have h8 : 0 ≤ 8 * (i : Int) := by omega
      have hsh : IntKind.i64.wrap ((stripL bs)[i] * 2 ^ Nat.min (8 * (i : Int)).toNat IntKind.i64.bits) = (stripL bs)[i] * 256 ^ i := by
        have e1 : Nat.min (8 * (i : Int)).toNat IntKind.i64.bits = 8 * i := by
          show Nat.min (8 * (i : Int)).toNat 64 = 8 * i
          rw [show (8 * (i : Int)).toNat = 8 * i by omega]; exact Nat.min_eq_left (by omega)
        rw [e1]
        have e2 : (2 : Int) ^ (8 * i) = 256 ^ i := by rw [Int.pow_mul]; rfl
        rw [e2]
        exact wrap_i64 (by omega) (by omega)
      rw [hnx] at hor
      have hcv : IntKind.i64.wrap (stripL bs)[i] = (stripL bs)[i] := wrap_i64 (by omega) (by omega)
      have hand := andn128 hbi
      have hstep : ∀ (s : Env), W Try.prog (Ret fun u w' => u = .tuple #[.int .i64 (fromF bs most).1, .int .i64 (fromF bs most).2] ∧ Ext w w') 30 12 ((0, .slice (some ⟨b, o, none⟩) bs.length c) :: (6, .int .i64 (valF ((stripL bs).take i))) :: (7, .int .i64 i) :: (8, .int .u8 (stripL bs)[i]) :: (14, .slice (some ⟨b, o, none⟩) bs.length c) :: (15, .int .i64 (bs.length : Nat)) :: (16, .int .i64 i) :: s) w := by
        intro s
        (refine W_at c30_ok ?_; refine ⟨_, rfl, ?_⟩; simp (disch := first | omega | assumption | rfl | (simp only [vcS] <;> omega) | fail) only [↓ptV_l, ↓vcA, vcB, ↓vcD, vcE, ↓reduceIte, Nat.reduceEqDiff, Nat.reduceAdd, Nat.reduceMul, Nat.reduceLeDiff, Int.reduceLE, Int.reduceLT, Int.reduceEq, Int.reduceToNat, Int.reduceAdd, Int.reduceSub, Int.reduceMul, Int.reduceNeg, reduceCtorEq, Option.bind_some, Option.map_some, List.length_cons, List.length_nil, vcM, List.getElem?_toArray, List.getElem?_cons_zero, List.getElem?_cons_succ, hcv, hm8, h8, hsh, hor])
        (refine W_at c30_ok ?_; refine ⟨_, rfl, ?_⟩; simp (disch := first | omega | assumption | rfl | (simp only [vcS] <;> omega) | fail) only [↓ptV_l, ↓vcA, vcB, ↓vcD, vcE, ↓reduceIte, Nat.reduceEqDiff, Nat.reduceAdd, Nat.reduceMul, Nat.reduceLeDiff, Int.reduceLE, Int.reduceLT, Int.reduceEq, Int.reduceToNat, Int.reduceAdd, Int.reduceSub, Int.reduceMul, Int.reduceNeg, reduceCtorEq, Option.bind_some, Option.map_some, List.length_cons, List.length_nil, vcM, List.getElem?_toArray, List.getElem?_cons_zero, List.getElem?_cons_succ, hwi])
        (refine W_at c30_ok ?_; refine ⟨_, rfl, ?_⟩; simp (disch := first | omega | assumption | rfl | (simp only [vcS] <;> omega) | fail) only [↓ptV_l, ↓vcA, vcB, ↓vcD, vcE, ↓reduceIte, Nat.reduceEqDiff, Nat.reduceAdd, Nat.reduceMul, Nat.reduceLeDiff, Int.reduceLE, Int.reduceLT, Int.reduceEq, Int.reduceToNat, Int.reduceAdd, Int.reduceSub, Int.reduceMul, Int.reduceNeg, reduceCtorEq, Option.bind_some, Option.map_some, List.length_cons, List.length_nil, vcM, List.getElem?_toArray, List.getElem?_cons_zero, List.getElem?_cons_succ])
        exact ih (i + 1) (by omega)
      (refine W_at c30_ok ?_; refine ⟨_, rfl, ?_⟩; simp (disch := first | omega | assumption | rfl | (simp only [vcS] <;> omega) | fail) only [↓ptV_l, ↓vcA, vcB, ↓vcD, vcE, ↓reduceIte, Nat.reduceEqDiff, Nat.reduceAdd, Nat.reduceMul, Nat.reduceLeDiff, Int.reduceLE, Int.reduceLT, Int.reduceEq, Int.reduceToNat, Int.reduceAdd, Int.reduceSub, Int.reduceMul, Int.reduceNeg, reduceCtorEq, Option.bind_some, Option.map_some, List.length_cons, List.length_nil, vcM, List.getElem?_toArray, List.getElem?_cons_zero, List.getElem?_cons_succ, hlt])
      (refine W_at c30_ok ?_; refine ⟨_, rfl, ?_⟩; simp (disch := first | omega | assumption | rfl | (simp only [vcS] <;> omega) | fail) only [↓ptV_l, ↓vcA, vcB, ↓vcD, vcE, ↓reduceIte, Nat.reduceEqDiff, Nat.reduceAdd, Nat.reduceMul, Nat.reduceLeDiff, Int.reduceLE, Int.reduceLT, Int.reduceEq, Int.reduceToNat, Int.reduceAdd, Int.reduceSub, Int.reduceMul, Int.reduceNeg, reduceCtorEq, Option.bind_some, Option.map_some, List.length_cons, List.length_nil, vcM, List.getElem?_toArray, List.getElem?_cons_zero, List.getElem?_cons_succ])
      (refine W_at c30_ok ?_; refine ⟨_, rfl, ?_⟩; simp (disch := first | omega | assumption | rfl | (simp only [vcS] <;> omega) | fail) only [↓ptV_l, ↓vcA, vcB, ↓vcD, vcE, ↓reduceIte, Nat.reduceEqDiff, Nat.reduceAdd, Nat.reduceMul, Nat.reduceLeDiff, Int.reduceLE, Int.reduceLT, Int.reduceEq, Int.reduceToNat, Int.reduceAdd, Int.reduceSub, Int.reduceMul, Int.reduceNeg, reduceCtorEq, Option.bind_some, Option.map_some, List.length_cons, List.length_nil, vcM, List.getElem?_toArray, List.getElem?_cons_zero, List.getElem?_cons_succ, hi2, Int.toNat_natCast, Nat.mul_one, hcell])
      by_cases hlast : i + 1 = bs.length
      · rw [if_pos hlast] at hat
        have hcl : decide ((i : Int) = (bs.length : Int) - 1) = true := decide_eq_true (by omega)
        rw [hat] at hstep
        (refine W_at c30_ok ?_; refine ⟨_, rfl, ?_⟩; simp (disch := first | omega | assumption | rfl | (simp only [vcS] <;> omega) | fail) only [↓ptV_l, ↓vcA, vcB, ↓vcD, vcE, ↓reduceIte, Nat.reduceEqDiff, Nat.reduceAdd, Nat.reduceMul, Nat.reduceLeDiff, Int.reduceLE, Int.reduceLT, Int.reduceEq, Int.reduceToNat, Int.reduceAdd, Int.reduceSub, Int.reduceMul, Int.reduceNeg, reduceCtorEq, Option.bind_some, Option.map_some, List.length_cons, List.length_nil, vcM, List.getElem?_toArray, List.getElem?_cons_zero, List.getElem?_cons_succ, hlen, hws, hcl])
        (refine W_at c30_ok ?_; refine ⟨_, rfl, ?_⟩; simp (disch := first | omega | assumption | rfl | (simp only [vcS] <;> omega) | fail) only [↓ptV_l, ↓vcA, vcB, ↓vcD, vcE, ↓reduceIte, Nat.reduceEqDiff, Nat.reduceAdd, Nat.reduceMul, Nat.reduceLeDiff, Int.reduceLE, Int.reduceLT, Int.reduceEq, Int.reduceToNat, Int.reduceAdd, Int.reduceSub, Int.reduceMul, Int.reduceNeg, reduceCtorEq, Option.bind_some, Option.map_some, List.length_cons, List.length_nil, vcM, List.getElem?_toArray, List.getElem?_cons_zero, List.getElem?_cons_succ])
        (refine W_at c30_ok ?_; refine ⟨_, rfl, ?_⟩; simp (disch := first | omega | assumption | rfl | (simp only [vcS] <;> omega) | fail) only [↓ptV_l, ↓vcA, vcB, ↓vcD, vcE, ↓reduceIte, Nat.reduceEqDiff, Nat.reduceAdd, Nat.reduceMul, Nat.reduceLeDiff, Int.reduceLE, Int.reduceLT, Int.reduceEq, Int.reduceToNat, Int.reduceAdd, Int.reduceSub, Int.reduceMul, Int.reduceNeg, reduceCtorEq, Option.bind_some, Option.map_some, List.length_cons, List.length_nil, vcM, List.getElem?_toArray, List.getElem?_cons_zero, List.getElem?_cons_succ, hand])
        exact hstep _
      · rw [if_neg hlast] at hat
        have hcl : decide ((i : Int) = (bs.length : Int) - 1) = false := decide_eq_false (by omega)
        rw [hat] at hstep
        (refine W_at c30_ok ?_; refine ⟨_, rfl, ?_⟩; simp (disch := first | omega | assumption | rfl | (simp only [vcS] <;> omega) | fail) only [↓ptV_l, ↓vcA, vcB, ↓vcD, vcE, ↓reduceIte, Nat.reduceEqDiff, Nat.reduceAdd, Nat.reduceMul, Nat.reduceLeDiff, Int.reduceLE, Int.reduceLT, Int.reduceEq, Int.reduceToNat, Int.reduceAdd, Int.reduceSub, Int.reduceMul, Int.reduceNeg, reduceCtorEq, Option.bind_some, Option.map_some, List.length_cons, List.length_nil, vcM, List.getElem?_toArray, List.getElem?_cons_zero, List.getElem?_cons_succ, hlen, hws, hcl])
        (refine W_at c30_ok ?_; refine ⟨_, rfl, ?_⟩; simp (disch := first | omega | assumption | rfl | (simp only [vcS] <;> omega) | fail) only [↓ptV_l, ↓vcA, vcB, ↓vcD, vcE, ↓reduceIte, Nat.reduceEqDiff, Nat.reduceAdd, Nat.reduceMul, Nat.reduceLeDiff, Int.reduceLE, Int.reduceLT, Int.reduceEq, Int.reduceToNat, Int.reduceAdd, Int.reduceSub, Int.reduceMul, Int.reduceNeg, reduceCtorEq, Option.bind_some, Option.map_some, List.length_cons, List.length_nil, vcM, List.getElem?_toArray, List.getElem?_cons_zero, List.getElem?_cons_succ])
        exact hstep _
  exact L bs.length 0 (by omega)
end Go.Proofs
