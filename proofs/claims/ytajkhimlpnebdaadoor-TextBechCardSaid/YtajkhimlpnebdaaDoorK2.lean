/- Laws that the last text of this claim uses, part 2: written for it, merged by program. -/
import Derived.Test.YtajkhimlpnebdaaDoorK1
set_option linter.unusedSimpArgs false
set_option linter.unusedVariables false
set_option linter.constructorNameAsVariable false
namespace Go.Proofs
open Go.Vc
set_option maxRecDepth 10000

theorem places_take {bs : List Int} {i : Nat} (h : i < bs.length) : (placesF (bs.take (i + 1))).foldl stepV ([], []) = stepV ((placesF (bs.take i)).foldl stepV ([], [])) (placeF bs[i] inS 0) := by
  rw [List.take_succ_eq_append_getElem h]
  simp only [placesF, List.map_append, List.foldl_append, List.map_cons, List.map_nil, List.foldl_cons, List.foldl_nil]
set_option maxHeartbeats 1600000 in
theorem checksum_ok (w : World) (bs : List Int) (hb : byt bs) (hl : bs.length ≤ 100000) :
    Calls Tryd.prog 21 #[.string (strOf bs)] w (Ret fun u w' => u = .tuple #[.string (strOf ((checkF bs).getD [])), .int .i64 (if checkF bs = none then 3 else 0)] ∧ Ext w w') := by
  refine calls_of_cfg c21_ok (Nat.le_of_ble_eq_true rfl) ?_
  simp only [argE_nil, argE_cons, Nat.reduceAdd, Nat.zero_add]
  have hsz := str_size bs
  (refine W_at c21_ok ?_; refine ⟨_, rfl, ?_⟩; simp (disch := first | omega | assumption | rfl | (simp only [vcS] <;> omega) | fail) only [↓ptV_l, ↓vcA, vcB, ↓vcD, vcE, ↓reduceIte, Nat.reduceEqDiff, Nat.reduceAdd, Nat.reduceMul, Nat.reduceLeDiff, Int.reduceLE, Int.reduceLT, Int.reduceEq, Int.reduceToNat, Int.reduceAdd, Int.reduceSub, Int.reduceMul, Int.reduceNeg, reduceCtorEq, Option.bind_some, Option.map_some, List.length_cons, List.length_nil, vcM, List.getElem?_toArray, List.getElem?_cons_zero, List.getElem?_cons_succ])
  (refine W_at c21_ok ?_; refine ⟨_, rfl, ?_⟩; simp (disch := first | omega | assumption | rfl | (simp only [vcS] <;> omega) | fail) only [↓ptV_l, ↓vcA, vcB, ↓vcD, vcE, ↓reduceIte, Nat.reduceEqDiff, Nat.reduceAdd, Nat.reduceMul, Nat.reduceLeDiff, Int.reduceLE, Int.reduceLT, Int.reduceEq, Int.reduceToNat, Int.reduceAdd, Int.reduceSub, Int.reduceMul, Int.reduceNeg, reduceCtorEq, Option.bind_some, Option.map_some, List.length_cons, List.length_nil, vcM, List.getElem?_toArray, List.getElem?_cons_zero, List.getElem?_cons_succ])
  (refine W_at c21_ok ?_; refine ⟨_, rfl, ?_⟩; simp (disch := first | omega | assumption | rfl | (simp only [vcS] <;> omega) | fail) only [↓ptV_l, ↓vcA, vcB, ↓vcD, vcE, ↓reduceIte, Nat.reduceEqDiff, Nat.reduceAdd, Nat.reduceMul, Nat.reduceLeDiff, Int.reduceLE, Int.reduceLT, Int.reduceEq, Int.reduceToNat, Int.reduceAdd, Int.reduceSub, Int.reduceMul, Int.reduceNeg, reduceCtorEq, Option.bind_some, Option.map_some, List.length_cons, List.length_nil, vcM, List.getElem?_toArray, List.getElem?_cons_zero, List.getElem?_cons_succ, hsz])
  -- behind the values
  have tail : ∀ (wj : World) (vv : Value) (vs : List Int) (tl : Env), New w wj vv vs → byt vs → vs.length ≤ 500000 → checkF bs = some ((lettersF (runB 35 descG (vs ++ List.replicate 8 0) ^^^ 1#64) 8).map l32F) →
      W Tryd.prog (Ret fun u w' => u = .tuple #[.string (strOf ((checkF bs).getD [])), .int .i64 (if checkF bs = none then 3 else 0)] ∧ Ext w w') 21 10 ((4, vv) :: tl) wj := by
    intro wj vv vs tl hN hvb hvl hc
    (refine W_at c21_ok ?_; refine ⟨_, rfl, ?_⟩; simp (disch := first | omega | assumption | rfl | (simp only [vcS] <;> omega) | fail) only [↓ptV_l, ↓vcA, vcB, ↓vcD, vcE, ↓reduceIte, Nat.reduceEqDiff, Nat.reduceAdd, Nat.reduceMul, Nat.reduceLeDiff, Int.reduceLE, Int.reduceLT, Int.reduceEq, Int.reduceToNat, Int.reduceAdd, Int.reduceSub, Int.reduceMul, Int.reduceNeg, reduceCtorEq, Option.bind_some, Option.map_some, List.length_cons, List.length_nil, vcM, List.getElem?_toArray, List.getElem?_cons_zero, List.getElem?_cons_succ])
    (refine W_at c21_ok ?_; refine ⟨_, rfl, ?_⟩; simp (disch := first | omega | assumption | rfl | (simp only [vcS] <;> omega) | fail) only [↓ptV_l, ↓vcA, vcB, ↓vcD, vcE, ↓reduceIte, Nat.reduceEqDiff, Nat.reduceAdd, Nat.reduceMul, Nat.reduceLeDiff, Int.reduceLE, Int.reduceLT, Int.reduceEq, Int.reduceToNat, Int.reduceAdd, Int.reduceSub, Int.reduceMul, Int.reduceNeg, reduceCtorEq, Option.bind_some, Option.map_some, List.length_cons, List.length_nil, vcM, List.getElem?_toArray, List.getElem?_cons_zero, List.getElem?_cons_succ])
    refine callV_ret (descs_ok wj) ?_
    rintro _ w1 ⟨rfl, hE1⟩
    first | (simp (disch := first | omega | assumption | rfl | (simp only [vcS] <;> omega) | fail) only [↓ptV_l, ↓vcA, vcB, ↓vcD, vcE, ↓reduceIte, Nat.reduceEqDiff, Nat.reduceAdd, Nat.reduceMul, Nat.reduceLeDiff, Int.reduceLE, Int.reduceLT, Int.reduceEq, Int.reduceToNat, Int.reduceAdd, Int.reduceSub, Int.reduceMul, Int.reduceNeg, reduceCtorEq, Option.bind_some, Option.map_some, List.length_cons, List.length_nil, vcM, List.getElem?_toArray, List.getElem?_cons_zero, List.getElem?_cons_succ]) | skip
    refine callV_ret (run_ok w1 35 descG vv vs 8 (by decide) rfl (hN.own.rd.ext hE1) hvb (by omega) (by decide)) ?_
    rintro _ w2 ⟨rfl, hE2⟩
    simp (disch := first | omega | assumption | rfl | (simp only [vcS] <;> omega) | fail) only [↓ptV_l, ↓vcA, vcB, ↓vcD, vcE, ↓reduceIte, Nat.reduceEqDiff, Nat.reduceAdd, Nat.reduceMul, Nat.reduceLeDiff, Int.reduceLE, Int.reduceLT, Int.reduceEq, Int.reduceToNat, Int.reduceAdd, Int.reduceSub, Int.reduceMul, Int.reduceNeg, reduceCtorEq, Option.bind_some, Option.map_some, List.length_cons, List.length_nil, vcM, List.getElem?_toArray, List.getElem?_cons_zero, List.getElem?_cons_succ, U64_xor1]
    refine callV_ret (letters_ok w2 (runB 35 descG (vs ++ List.replicate 8 0) ^^^ 1#64) 8 (by decide)) ?_
    rintro u w3 hL
    have hE3 := ((hN.ext.ext hE1).ext hE2).ext hL.ext
    have hlen := hL.own.rd.len
    have hll : (lettersF (runB 35 descG (vs ++ List.replicate 8 0) ^^^ 1#64) 8).length = 8 := by simp [lettersF]
    have hlb : ∀ x ∈ lettersF (runB 35 descG (vs ++ List.replicate 8 0) ^^^ 1#64) 8, 0 ≤ x ∧ x ≤ 31 := fun x hx => by
      obtain ⟨j, _, rfl⟩ := List.mem_map.1 hx
      have := and31_lt ((runB 35 descG (vs ++ List.replicate 8 0) ^^^ 1#64) >>> (5 * (8 - 1 - j)))
      omega
    have hR := hL.own.rd
    generalize lettersF (runB 35 descG (vs ++ List.replicate 8 0) ^^^ 1#64) 8 = ls at *
    rw [hll] at hlen
    simp (disch := first | omega | assumption | rfl | (simp only [vcS] <;> omega) | fail) only [↓ptV_l, ↓vcA, vcB, ↓vcD, vcE, ↓reduceIte, Nat.reduceEqDiff, Nat.reduceAdd, Nat.reduceMul, Nat.reduceLeDiff, Int.reduceLE, Int.reduceLT, Int.reduceEq, Int.reduceToNat, Int.reduceAdd, Int.reduceSub, Int.reduceMul, Int.reduceNeg, reduceCtorEq, Option.bind_some, Option.map_some, List.length_cons, List.length_nil, vcM, List.getElem?_toArray, List.getElem?_cons_zero, List.getElem?_cons_succ, hlen]
    have L : ∀ (k i : Nat) (wj : World) (vb : Value) (tl : Env), k + i = 8 → New w3 wj vb ((ls.take i).map l32F) →
        W Tryd.prog (Ret fun u w' => u = .tuple #[.string (strOf ((checkF bs).getD [])), .int .i64 (if checkF bs = none then 3 else 0)] ∧ Ext w w') 21 8 ((8, vb) :: (81, u) :: (82, .int .i64 8) :: (83, .int .i64 i) :: tl) wj := by
      intro k
      induction k with
      | zero =>
        intro i wj vb tl hi hB
        have hil : ¬ ((i : Int) < 8) := by omega
        rw [List.take_of_length_le (by omega)] at hB
        have hs := hB.own.rd.b2s
        (refine W_at c21_ok ?_; refine ⟨_, rfl, ?_⟩; simp (disch := first | omega | assumption | rfl | (simp only [vcS] <;> omega) | fail) only [↓ptV_l, ↓vcA, vcB, ↓vcD, vcE, ↓reduceIte, Nat.reduceEqDiff, Nat.reduceAdd, Nat.reduceMul, Nat.reduceLeDiff, Int.reduceLE, Int.reduceLT, Int.reduceEq, Int.reduceToNat, Int.reduceAdd, Int.reduceSub, Int.reduceMul, Int.reduceNeg, reduceCtorEq, Option.bind_some, Option.map_some, List.length_cons, List.length_nil, vcM, List.getElem?_toArray, List.getElem?_cons_zero, List.getElem?_cons_succ, hil])
        (refine W_at c21_ok ?_; refine ⟨_, rfl, ?_⟩; simp (disch := first | omega | assumption | rfl | (simp only [vcS] <;> omega) | fail) only [↓ptV_l, ↓vcA, vcB, ↓vcD, vcE, ↓reduceIte, Nat.reduceEqDiff, Nat.reduceAdd, Nat.reduceMul, Nat.reduceLeDiff, Int.reduceLE, Int.reduceLT, Int.reduceEq, Int.reduceToNat, Int.reduceAdd, Int.reduceSub, Int.reduceMul, Int.reduceNeg, reduceCtorEq, Option.bind_some, Option.map_some, List.length_cons, List.length_nil, vcM, List.getElem?_toArray, List.getElem?_cons_zero, List.getElem?_cons_succ])
        (refine W_at c21_ok ?_; refine ⟨_, rfl, ?_⟩; simp (disch := first | omega | assumption | rfl | (simp only [vcS] <;> omega) | fail) only [↓ptV_l, ↓vcA, vcB, ↓vcD, vcE, ↓reduceIte, Nat.reduceEqDiff, Nat.reduceAdd, Nat.reduceMul, Nat.reduceLeDiff, Int.reduceLE, Int.reduceLT, Int.reduceEq, Int.reduceToNat, Int.reduceAdd, Int.reduceSub, Int.reduceMul, Int.reduceNeg, reduceCtorEq, Option.bind_some, Option.map_some, List.length_cons, List.length_nil, vcM, List.getElem?_toArray, List.getElem?_cons_zero, List.getElem?_cons_succ, hs])
        (refine W_at c21_ok ?_; refine ⟨_, rfl, ?_⟩; simp (disch := first | omega | assumption | rfl | (simp only [vcS] <;> omega) | fail) only [↓ptV_l, ↓vcA, vcB, ↓vcD, vcE, ↓reduceIte, Nat.reduceEqDiff, Nat.reduceAdd, Nat.reduceMul, Nat.reduceLeDiff, Int.reduceLE, Int.reduceLT, Int.reduceEq, Int.reduceToNat, Int.reduceAdd, Int.reduceSub, Int.reduceMul, Int.reduceNeg, reduceCtorEq, Option.bind_some, Option.map_some, List.length_cons, List.length_nil, vcM, List.getElem?_toArray, List.getElem?_cons_zero, List.getElem?_cons_succ, Ret_returned])
        exact ⟨by rw [hc, if_neg (by simp)]; rfl, hE3.ext hB.ext⟩
      | succ k ih =>
        intro i wj vb tl hi hB
        have hil : (i : Int) < 8 := by omega
        have hi2 : 0 ≤ (i : Int) ∧ (i : Int) < 8 := by omega
        have hwi : IntKind.i64.wrap ((i : Int) + 1) = ((i + 1 : Nat) : Int) := wrap_i64 (by omega) (by omega)
        obtain ⟨b, o, c, hu, hcell⟩ := (hR.ext hB.ext).at (i := i) (by omega)
        rw [hll] at hu
        subst hu
        have hx := hlb ls[i] (List.getElem_mem _)
        have ht : (ls.take (i + 1)).map l32F = (ls.take i).map l32F ++ [l32F (ls[i]'(by omega))] := by rw [List.take_succ_eq_append_getElem (by omega), List.map_append]; rfl
        (refine W_at c21_ok ?_; refine ⟨_, rfl, ?_⟩; simp (disch := first | omega | assumption | rfl | (simp only [vcS] <;> omega) | fail) only [↓ptV_l, ↓vcA, vcB, ↓vcD, vcE, ↓reduceIte, Nat.reduceEqDiff, Nat.reduceAdd, Nat.reduceMul, Nat.reduceLeDiff, Int.reduceLE, Int.reduceLT, Int.reduceEq, Int.reduceToNat, Int.reduceAdd, Int.reduceSub, Int.reduceMul, Int.reduceNeg, reduceCtorEq, Option.bind_some, Option.map_some, List.length_cons, List.length_nil, vcM, List.getElem?_toArray, List.getElem?_cons_zero, List.getElem?_cons_succ, hil])
        (refine W_at c21_ok ?_; refine ⟨_, rfl, ?_⟩; simp (disch := first | omega | assumption | rfl | (simp only [vcS] <;> omega) | fail) only [↓ptV_l, ↓vcA, vcB, ↓vcD, vcE, ↓reduceIte, Nat.reduceEqDiff, Nat.reduceAdd, Nat.reduceMul, Nat.reduceLeDiff, Int.reduceLE, Int.reduceLT, Int.reduceEq, Int.reduceToNat, Int.reduceAdd, Int.reduceSub, Int.reduceMul, Int.reduceNeg, reduceCtorEq, Option.bind_some, Option.map_some, List.length_cons, List.length_nil, vcM, List.getElem?_toArray, List.getElem?_cons_zero, List.getElem?_cons_succ])
        generalize ls[i]'(by omega) = x at *
        have g1 := l32_at hx
        have u1 := u8i (l32F_b hx)
        have hx0 := hx.1
        (refine W_at c21_ok ?_; refine ⟨_, rfl, ?_⟩; simp (disch := first | omega | assumption | rfl | (simp only [vcS] <;> omega) | fail) only [↓ptV_l, ↓vcA, vcB, ↓vcD, vcE, ↓reduceIte, Nat.reduceEqDiff, Nat.reduceAdd, Nat.reduceMul, Nat.reduceLeDiff, Int.reduceLE, Int.reduceLT, Int.reduceEq, Int.reduceToNat, Int.reduceAdd, Int.reduceSub, Int.reduceMul, Int.reduceNeg, reduceCtorEq, Option.bind_some, Option.map_some, List.length_cons, List.length_nil, vcM, List.getElem?_toArray, List.getElem?_cons_zero, List.getElem?_cons_succ, hi2, hcell, Int.toNat_natCast, Nat.mul_one])
        (refine W_at c21_ok ?_; refine ⟨_, rfl, ?_⟩; simp (disch := first | omega | assumption | rfl | (simp only [vcS] <;> omega) | fail) only [↓ptV_l, ↓vcA, vcB, ↓vcD, vcE, ↓reduceIte, Nat.reduceEqDiff, Nat.reduceAdd, Nat.reduceMul, Nat.reduceLeDiff, Int.reduceLE, Int.reduceLT, Int.reduceEq, Int.reduceToNat, Int.reduceAdd, Int.reduceSub, Int.reduceMul, Int.reduceNeg, reduceCtorEq, Option.bind_some, Option.map_some, List.length_cons, List.length_nil, vcM, List.getElem?_toArray, List.getElem?_cons_zero, List.getElem?_cons_succ, l32S_is, hx0, g1, u1])
        refine appNL (news := [l32F x]) hB (by simp [List.length_take]; omega) fun v' w' n1 _ _ => ?_
        (refine W_at c21_ok ?_; refine ⟨_, rfl, ?_⟩; simp (disch := first | omega | assumption | rfl | (simp only [vcS] <;> omega) | fail) only [↓ptV_l, ↓vcA, vcB, ↓vcD, vcE, ↓reduceIte, Nat.reduceEqDiff, Nat.reduceAdd, Nat.reduceMul, Nat.reduceLeDiff, Int.reduceLE, Int.reduceLT, Int.reduceEq, Int.reduceToNat, Int.reduceAdd, Int.reduceSub, Int.reduceMul, Int.reduceNeg, reduceCtorEq, Option.bind_some, Option.map_some, List.length_cons, List.length_nil, vcM, List.getElem?_toArray, List.getElem?_cons_zero, List.getElem?_cons_succ, hwi])
        (refine W_at c21_ok ?_; refine ⟨_, rfl, ?_⟩; simp (disch := first | omega | assumption | rfl | (simp only [vcS] <;> omega) | fail) only [↓ptV_l, ↓vcA, vcB, ↓vcD, vcE, ↓reduceIte, Nat.reduceEqDiff, Nat.reduceAdd, Nat.reduceMul, Nat.reduceLeDiff, Int.reduceLE, Int.reduceLT, Int.reduceEq, Int.reduceToNat, Int.reduceAdd, Int.reduceSub, Int.reduceMul, Int.reduceNeg, reduceCtorEq, Option.bind_some, Option.map_some, List.length_cons, List.length_nil, vcM, List.getElem?_toArray, List.getElem?_cons_zero, List.getElem?_cons_succ])
        exact ih (i + 1) w' v' _ (by omega) (by rw [ht]; exact n1)
    exact L 8 0 w3 _ _ (by omega) (New.nil w3)
  have L : ∀ (k i : Nat) (wj : World) (vv gv : Value) (st : List Int × List Int) (tl : Env), k + i = bs.length → New w wj vv st.1 → New w wj gv st.2 → (∀ g, blk vv g → ¬ blk gv g) → StOk st i → st = (placesF (bs.take i)).foldl stepV ([], []) → (∀ p ∈ placesF (bs.take i), 0 ≤ p) →
      W Tryd.prog (Ret fun u w' => u = .tuple #[.string (strOf ((checkF bs).getD [])), .int .i64 (if checkF bs = none then 3 else 0)] ∧ Ext w w') 21 31 ((0, .string (strOf bs)) :: (4, vv) :: (5, gv) :: (12, .int .i64 bs.length) :: (13, .int .i64 i) :: tl) wj := by
    intro k
    induction k with
    | zero =>
      intro i wj vv gv st tl hi hV hG hdis hS hst hall
      have hil : ¬ ((i : Int) < (bs.length : Int)) := by omega
      rw [List.take_of_length_le (by omega)] at hst hall
      have hc : checkF bs = some ((lettersF (runB 35 descG (endV st ++ List.replicate 8 0) ^^^ 1#64) 8).map l32F) := by
        unfold checkF
        rw [if_pos (List.all_eq_true.2 fun p hp => decide_eq_true (hall p hp))]
        unfold sumOf valsOf
        rw [← hst]
      have hend := hS.end
      have hgl := hG.own.rd.len
      obtain ⟨vs, gs⟩ := st
      simp only at hV hG hgl
      have hb2 := hS.b2
      have hl2 := hS.l2
      have hl1 := hS.l1
      simp only at hb2 hl2 hl1
      match gs, hb2, hl2, hG, hgl, hend, hc with
      | [], _, _, hG, hgl, hend, hc =>
        (refine W_at c21_ok ?_; refine ⟨_, rfl, ?_⟩; simp (disch := first | omega | assumption | rfl | (simp only [vcS] <;> omega) | fail) only [↓ptV_l, ↓vcA, vcB, ↓vcD, vcE, ↓reduceIte, Nat.reduceEqDiff, Nat.reduceAdd, Nat.reduceMul, Nat.reduceLeDiff, Int.reduceLE, Int.reduceLT, Int.reduceEq, Int.reduceToNat, Int.reduceAdd, Int.reduceSub, Int.reduceMul, Int.reduceNeg, reduceCtorEq, Option.bind_some, Option.map_some, List.length_cons, List.length_nil, vcM, List.getElem?_toArray, List.getElem?_cons_zero, List.getElem?_cons_succ, hil])
        (refine W_at c21_ok ?_; refine ⟨_, rfl, ?_⟩; simp (disch := first | omega | assumption | rfl | (simp only [vcS] <;> omega) | fail) only [↓ptV_l, ↓vcA, vcB, ↓vcD, vcE, ↓reduceIte, Nat.reduceEqDiff, Nat.reduceAdd, Nat.reduceMul, Nat.reduceLeDiff, Int.reduceLE, Int.reduceLT, Int.reduceEq, Int.reduceToNat, Int.reduceAdd, Int.reduceSub, Int.reduceMul, Int.reduceNeg, reduceCtorEq, Option.bind_some, Option.map_some, List.length_cons, List.length_nil, vcM, List.getElem?_toArray, List.getElem?_cons_zero, List.getElem?_cons_succ])
        (refine W_at c21_ok ?_; refine ⟨_, rfl, ?_⟩; simp (disch := first | omega | assumption | rfl | (simp only [vcS] <;> omega) | fail) only [↓ptV_l, ↓vcA, vcB, ↓vcD, vcE, ↓reduceIte, Nat.reduceEqDiff, Nat.reduceAdd, Nat.reduceMul, Nat.reduceLeDiff, Int.reduceLE, Int.reduceLT, Int.reduceEq, Int.reduceToNat, Int.reduceAdd, Int.reduceSub, Int.reduceMul, Int.reduceNeg, reduceCtorEq, Option.bind_some, Option.map_some, List.length_cons, List.length_nil, vcM, List.getElem?_toArray, List.getElem?_cons_zero, List.getElem?_cons_succ, hgl])
        (refine W_at c21_ok ?_; refine ⟨_, rfl, ?_⟩; simp (disch := first | omega | assumption | rfl | (simp only [vcS] <;> omega) | fail) only [↓ptV_l, ↓vcA, vcB, ↓vcD, vcE, ↓reduceIte, Nat.reduceEqDiff, Nat.reduceAdd, Nat.reduceMul, Nat.reduceLeDiff, Int.reduceLE, Int.reduceLT, Int.reduceEq, Int.reduceToNat, Int.reduceAdd, Int.reduceSub, Int.reduceMul, Int.reduceNeg, reduceCtorEq, Option.bind_some, Option.map_some, List.length_cons, List.length_nil, vcM, List.getElem?_toArray, List.getElem?_cons_zero, List.getElem?_cons_succ])
        (refine W_at c21_ok ?_; refine ⟨_, rfl, ?_⟩; simp (disch := first | omega | assumption | rfl | (simp only [vcS] <;> omega) | fail) only [↓ptV_l, ↓vcA, vcB, ↓vcD, vcE, ↓reduceIte, Nat.reduceEqDiff, Nat.reduceAdd, Nat.reduceMul, Nat.reduceLeDiff, Int.reduceLE, Int.reduceLT, Int.reduceEq, Int.reduceToNat, Int.reduceAdd, Int.reduceSub, Int.reduceMul, Int.reduceNeg, reduceCtorEq, Option.bind_some, Option.map_some, List.length_cons, List.length_nil, vcM, List.getElem?_toArray, List.getElem?_cons_zero, List.getElem?_cons_succ])
        (refine W_at c21_ok ?_; refine ⟨_, rfl, ?_⟩; simp (disch := first | omega | assumption | rfl | (simp only [vcS] <;> omega) | fail) only [↓ptV_l, ↓vcA, vcB, ↓vcD, vcE, ↓reduceIte, Nat.reduceEqDiff, Nat.reduceAdd, Nat.reduceMul, Nat.reduceLeDiff, Int.reduceLE, Int.reduceLT, Int.reduceEq, Int.reduceToNat, Int.reduceAdd, Int.reduceSub, Int.reduceMul, Int.reduceNeg, reduceCtorEq, Option.bind_some, Option.map_some, List.length_cons, List.length_nil, vcM, List.getElem?_toArray, List.getElem?_cons_zero, List.getElem?_cons_succ])
        (refine W_at c21_ok ?_; refine ⟨_, rfl, ?_⟩; simp (disch := first | omega | assumption | rfl | (simp only [vcS] <;> omega) | fail) only [↓ptV_l, ↓vcA, vcB, ↓vcD, vcE, ↓reduceIte, Nat.reduceEqDiff, Nat.reduceAdd, Nat.reduceMul, Nat.reduceLeDiff, Int.reduceLE, Int.reduceLT, Int.reduceEq, Int.reduceToNat, Int.reduceAdd, Int.reduceSub, Int.reduceMul, Int.reduceNeg, reduceCtorEq, Option.bind_some, Option.map_some, List.length_cons, List.length_nil, vcM, List.getElem?_toArray, List.getElem?_cons_zero, List.getElem?_cons_succ])
        exact tail wj vv vs _ hV hend.1 (by omega) hc
      | [a], hb2, _, hG, hgl, hend, hc =>
        obtain ⟨b, o, c, rfl, hcell⟩ := hG.own.rd.at (i := 0) (by simp)
        simp only [List.getElem_cons_zero, Nat.add_zero] at hcell
        (refine W_at c21_ok ?_; refine ⟨_, rfl, ?_⟩; simp (disch := first | omega | assumption | rfl | (simp only [vcS] <;> omega) | fail) only [↓ptV_l, ↓vcA, vcB, ↓vcD, vcE, ↓reduceIte, Nat.reduceEqDiff, Nat.reduceAdd, Nat.reduceMul, Nat.reduceLeDiff, Int.reduceLE, Int.reduceLT, Int.reduceEq, Int.reduceToNat, Int.reduceAdd, Int.reduceSub, Int.reduceMul, Int.reduceNeg, reduceCtorEq, Option.bind_some, Option.map_some, List.length_cons, List.length_nil, vcM, List.getElem?_toArray, List.getElem?_cons_zero, List.getElem?_cons_succ, hil])
        (refine W_at c21_ok ?_; refine ⟨_, rfl, ?_⟩; simp (disch := first | omega | assumption | rfl | (simp only [vcS] <;> omega) | fail) only [↓ptV_l, ↓vcA, vcB, ↓vcD, vcE, ↓reduceIte, Nat.reduceEqDiff, Nat.reduceAdd, Nat.reduceMul, Nat.reduceLeDiff, Int.reduceLE, Int.reduceLT, Int.reduceEq, Int.reduceToNat, Int.reduceAdd, Int.reduceSub, Int.reduceMul, Int.reduceNeg, reduceCtorEq, Option.bind_some, Option.map_some, List.length_cons, List.length_nil, vcM, List.getElem?_toArray, List.getElem?_cons_zero, List.getElem?_cons_succ])
        (refine W_at c21_ok ?_; refine ⟨_, rfl, ?_⟩; simp (disch := first | omega | assumption | rfl | (simp only [vcS] <;> omega) | fail) only [↓ptV_l, ↓vcA, vcB, ↓vcD, vcE, ↓reduceIte, Nat.reduceEqDiff, Nat.reduceAdd, Nat.reduceMul, Nat.reduceLeDiff, Int.reduceLE, Int.reduceLT, Int.reduceEq, Int.reduceToNat, Int.reduceAdd, Int.reduceSub, Int.reduceMul, Int.reduceNeg, reduceCtorEq, Option.bind_some, Option.map_some, List.length_cons, List.length_nil, vcM, List.getElem?_toArray, List.getElem?_cons_zero, List.getElem?_cons_succ, hgl])
        (refine W_at c21_ok ?_; refine ⟨_, rfl, ?_⟩; simp (disch := first | omega | assumption | rfl | (simp only [vcS] <;> omega) | fail) only [↓ptV_l, ↓vcA, vcB, ↓vcD, vcE, ↓reduceIte, Nat.reduceEqDiff, Nat.reduceAdd, Nat.reduceMul, Nat.reduceLeDiff, Int.reduceLE, Int.reduceLT, Int.reduceEq, Int.reduceToNat, Int.reduceAdd, Int.reduceSub, Int.reduceMul, Int.reduceNeg, reduceCtorEq, Option.bind_some, Option.map_some, List.length_cons, List.length_nil, vcM, List.getElem?_toArray, List.getElem?_cons_zero, List.getElem?_cons_succ])
        (refine W_at c21_ok ?_; refine ⟨_, rfl, ?_⟩; simp (disch := first | omega | assumption | rfl | (simp only [vcS] <;> omega) | fail) only [↓ptV_l, ↓vcA, vcB, ↓vcD, vcE, ↓reduceIte, Nat.reduceEqDiff, Nat.reduceAdd, Nat.reduceMul, Nat.reduceLeDiff, Int.reduceLE, Int.reduceLT, Int.reduceEq, Int.reduceToNat, Int.reduceAdd, Int.reduceSub, Int.reduceMul, Int.reduceNeg, reduceCtorEq, Option.bind_some, Option.map_some, List.length_cons, List.length_nil, vcM, List.getElem?_toArray, List.getElem?_cons_zero, List.getElem?_cons_succ])
        (refine W_at c21_ok ?_; refine ⟨_, rfl, ?_⟩; simp (disch := first | omega | assumption | rfl | (simp only [vcS] <;> omega) | fail) only [↓ptV_l, ↓vcA, vcB, ↓vcD, vcE, ↓reduceIte, Nat.reduceEqDiff, Nat.reduceAdd, Nat.reduceMul, Nat.reduceLeDiff, Int.reduceLE, Int.reduceLT, Int.reduceEq, Int.reduceToNat, Int.reduceAdd, Int.reduceSub, Int.reduceMul, Int.reduceNeg, reduceCtorEq, Option.bind_some, Option.map_some, List.length_cons, List.length_nil, vcM, List.getElem?_toArray, List.getElem?_cons_zero, List.getElem?_cons_succ, hcell])
        refine appNL (news := [a]) hV (by simp; omega) fun v' w' n1 _ _ => ?_
        first | (simp (disch := first | omega | assumption | rfl | (simp only [vcS] <;> omega) | fail) only [↓ptV_l, ↓vcA, vcB, ↓vcD, vcE, ↓reduceIte, Nat.reduceEqDiff, Nat.reduceAdd, Nat.reduceMul, Nat.reduceLeDiff, Int.reduceLE, Int.reduceLT, Int.reduceEq, Int.reduceToNat, Int.reduceAdd, Int.reduceSub, Int.reduceMul, Int.reduceNeg, reduceCtorEq, Option.bind_some, Option.map_some, List.length_cons, List.length_nil, vcM, List.getElem?_toArray, List.getElem?_cons_zero, List.getElem?_cons_succ]) | skip
        exact tail w' v' _ _ n1 hend.1 (by have := hend.2; simp [endV] at this ⊢; omega) hc
      | [a, b2], hb2, _, hG, hgl, hend, hc =>
        have ha := hb2 a (by simp)
        have hb := hb2 b2 (by simp)
        obtain ⟨b, o, c, rfl, hcell⟩ := hG.own.rd.at (i := 0) (by simp)
        obtain ⟨_, _, _, e, hcell2⟩ := hG.own.rd.at (i := 1) (by simp)
        cases e
        simp only [List.getElem_cons_zero, List.getElem_cons_succ, Nat.add_zero] at hcell hcell2
        have m1 : IntKind.u8.wrap (3 * a) = 3 * a := by rw [wrap_u8]; omega
        have m2 : IntKind.u8.wrap (3 * a + b2) = 3 * a + b2 := by rw [wrap_u8]; omega
        (refine W_at c21_ok ?_; refine ⟨_, rfl, ?_⟩; simp (disch := first | omega | assumption | rfl | (simp only [vcS] <;> omega) | fail) only [↓ptV_l, ↓vcA, vcB, ↓vcD, vcE, ↓reduceIte, Nat.reduceEqDiff, Nat.reduceAdd, Nat.reduceMul, Nat.reduceLeDiff, Int.reduceLE, Int.reduceLT, Int.reduceEq, Int.reduceToNat, Int.reduceAdd, Int.reduceSub, Int.reduceMul, Int.reduceNeg, reduceCtorEq, Option.bind_some, Option.map_some, List.length_cons, List.length_nil, vcM, List.getElem?_toArray, List.getElem?_cons_zero, List.getElem?_cons_succ, hil])
        (refine W_at c21_ok ?_; refine ⟨_, rfl, ?_⟩; simp (disch := first | omega | assumption | rfl | (simp only [vcS] <;> omega) | fail) only [↓ptV_l, ↓vcA, vcB, ↓vcD, vcE, ↓reduceIte, Nat.reduceEqDiff, Nat.reduceAdd, Nat.reduceMul, Nat.reduceLeDiff, Int.reduceLE, Int.reduceLT, Int.reduceEq, Int.reduceToNat, Int.reduceAdd, Int.reduceSub, Int.reduceMul, Int.reduceNeg, reduceCtorEq, Option.bind_some, Option.map_some, List.length_cons, List.length_nil, vcM, List.getElem?_toArray, List.getElem?_cons_zero, List.getElem?_cons_succ])
        (refine W_at c21_ok ?_; refine ⟨_, rfl, ?_⟩; simp (disch := first | omega | assumption | rfl | (simp only [vcS] <;> omega) | fail) only [↓ptV_l, ↓vcA, vcB, ↓vcD, vcE, ↓reduceIte, Nat.reduceEqDiff, Nat.reduceAdd, Nat.reduceMul, Nat.reduceLeDiff, Int.reduceLE, Int.reduceLT, Int.reduceEq, Int.reduceToNat, Int.reduceAdd, Int.reduceSub, Int.reduceMul, Int.reduceNeg, reduceCtorEq, Option.bind_some, Option.map_some, List.length_cons, List.length_nil, vcM, List.getElem?_toArray, List.getElem?_cons_zero, List.getElem?_cons_succ, hgl])
        (refine W_at c21_ok ?_; refine ⟨_, rfl, ?_⟩; simp (disch := first | omega | assumption | rfl | (simp only [vcS] <;> omega) | fail) only [↓ptV_l, ↓vcA, vcB, ↓vcD, vcE, ↓reduceIte, Nat.reduceEqDiff, Nat.reduceAdd, Nat.reduceMul, Nat.reduceLeDiff, Int.reduceLE, Int.reduceLT, Int.reduceEq, Int.reduceToNat, Int.reduceAdd, Int.reduceSub, Int.reduceMul, Int.reduceNeg, reduceCtorEq, Option.bind_some, Option.map_some, List.length_cons, List.length_nil, vcM, List.getElem?_toArray, List.getElem?_cons_zero, List.getElem?_cons_succ])
        (refine W_at c21_ok ?_; refine ⟨_, rfl, ?_⟩; simp (disch := first | omega | assumption | rfl | (simp only [vcS] <;> omega) | fail) only [↓ptV_l, ↓vcA, vcB, ↓vcD, vcE, ↓reduceIte, Nat.reduceEqDiff, Nat.reduceAdd, Nat.reduceMul, Nat.reduceLeDiff, Int.reduceLE, Int.reduceLT, Int.reduceEq, Int.reduceToNat, Int.reduceAdd, Int.reduceSub, Int.reduceMul, Int.reduceNeg, reduceCtorEq, Option.bind_some, Option.map_some, List.length_cons, List.length_nil, vcM, List.getElem?_toArray, List.getElem?_cons_zero, List.getElem?_cons_succ])
        (refine W_at c21_ok ?_; refine ⟨_, rfl, ?_⟩; simp (disch := first | omega | assumption | rfl | (simp only [vcS] <;> omega) | fail) only [↓ptV_l, ↓vcA, vcB, ↓vcD, vcE, ↓reduceIte, Nat.reduceEqDiff, Nat.reduceAdd, Nat.reduceMul, Nat.reduceLeDiff, Int.reduceLE, Int.reduceLT, Int.reduceEq, Int.reduceToNat, Int.reduceAdd, Int.reduceSub, Int.reduceMul, Int.reduceNeg, reduceCtorEq, Option.bind_some, Option.map_some, List.length_cons, List.length_nil, vcM, List.getElem?_toArray, List.getElem?_cons_zero, List.getElem?_cons_succ])
        (refine W_at c21_ok ?_; refine ⟨_, rfl, ?_⟩; simp (disch := first | omega | assumption | rfl | (simp only [vcS] <;> omega) | fail) only [↓ptV_l, ↓vcA, vcB, ↓vcD, vcE, ↓reduceIte, Nat.reduceEqDiff, Nat.reduceAdd, Nat.reduceMul, Nat.reduceLeDiff, Int.reduceLE, Int.reduceLT, Int.reduceEq, Int.reduceToNat, Int.reduceAdd, Int.reduceSub, Int.reduceMul, Int.reduceNeg, reduceCtorEq, Option.bind_some, Option.map_some, List.length_cons, List.length_nil, vcM, List.getElem?_toArray, List.getElem?_cons_zero, List.getElem?_cons_succ])
        (refine W_at c21_ok ?_; refine ⟨_, rfl, ?_⟩; simp (disch := first | omega | assumption | rfl | (simp only [vcS] <;> omega) | fail) only [↓ptV_l, ↓vcA, vcB, ↓vcD, vcE, ↓reduceIte, Nat.reduceEqDiff, Nat.reduceAdd, Nat.reduceMul, Nat.reduceLeDiff, Int.reduceLE, Int.reduceLT, Int.reduceEq, Int.reduceToNat, Int.reduceAdd, Int.reduceSub, Int.reduceMul, Int.reduceNeg, reduceCtorEq, Option.bind_some, Option.map_some, List.length_cons, List.length_nil, vcM, List.getElem?_toArray, List.getElem?_cons_zero, List.getElem?_cons_succ, hcell, hcell2, m1, m2])
        refine appNL (news := [3 * a + b2]) (hV.keep ((Keep.refl _ wj).drew)) (by simp; omega) fun v' w' n1 _ _ => ?_
        first | (simp (disch := first | omega | assumption | rfl | (simp only [vcS] <;> omega) | fail) only [↓ptV_l, ↓vcA, vcB, ↓vcD, vcE, ↓reduceIte, Nat.reduceEqDiff, Nat.reduceAdd, Nat.reduceMul, Nat.reduceLeDiff, Int.reduceLE, Int.reduceLT, Int.reduceEq, Int.reduceToNat, Int.reduceAdd, Int.reduceSub, Int.reduceMul, Int.reduceNeg, reduceCtorEq, Option.bind_some, Option.map_some, List.length_cons, List.length_nil, vcM, List.getElem?_toArray, List.getElem?_cons_zero, List.getElem?_cons_succ]) | skip
        exact tail w' v' _ _ n1 hend.1 (by have := hend.2; simp [endV] at this ⊢; omega) hc
    | succ k ih =>
      intro i wj vv gv st tl hi hV hG hdis hS hst hall
      have hil : (i : Int) < (bs.length : Int) := by omega
      have h0 : 0 ≤ (i : Int) := by omega
      have hwi : IntKind.i64.wrap ((i : Int) + 1) = ((i + 1 : Nat) : Int) := wrap_i64 (by omega) (by omega)
      have g1 := str_get (bs := bs) (i := i) (by omega)
      have b1 := hb bs[i] (List.getElem_mem _)
      have u1 := u8i b1
      have hp := place_in bs[i]
      have hpt := places_take (bs := bs) (i := i) (by omega)
      have hmem : placeF bs[i] inS 0 ∈ placesF bs := List.mem_map.2 ⟨bs[i], List.getElem_mem _, rfl⟩
      have htake : placesF (bs.take (i + 1)) = placesF (bs.take i) ++ [placeF (bs[i]'(by omega)) inS 0] := by
        rw [List.take_succ_eq_append_getElem (by omega)]
        simp only [placesF, List.map_append, List.map_cons, List.map_nil]
      (refine W_at c21_ok ?_; refine ⟨_, rfl, ?_⟩; simp (disch := first | omega | assumption | rfl | (simp only [vcS] <;> omega) | fail) only [↓ptV_l, ↓vcA, vcB, ↓vcD, vcE, ↓reduceIte, Nat.reduceEqDiff, Nat.reduceAdd, Nat.reduceMul, Nat.reduceLeDiff, Int.reduceLE, Int.reduceLT, Int.reduceEq, Int.reduceToNat, Int.reduceAdd, Int.reduceSub, Int.reduceMul, Int.reduceNeg, reduceCtorEq, Option.bind_some, Option.map_some, List.length_cons, List.length_nil, vcM, List.getElem?_toArray, List.getElem?_cons_zero, List.getElem?_cons_succ, hil])
      (refine W_at c21_ok ?_; refine ⟨_, rfl, ?_⟩; simp (disch := first | omega | assumption | rfl | (simp only [vcS] <;> omega) | fail) only [↓ptV_l, ↓vcA, vcB, ↓vcD, vcE, ↓reduceIte, Nat.reduceEqDiff, Nat.reduceAdd, Nat.reduceMul, Nat.reduceLeDiff, Int.reduceLE, Int.reduceLT, Int.reduceEq, Int.reduceToNat, Int.reduceAdd, Int.reduceSub, Int.reduceMul, Int.reduceNeg, reduceCtorEq, Option.bind_some, Option.map_some, List.length_cons, List.length_nil, vcM, List.getElem?_toArray, List.getElem?_cons_zero, List.getElem?_cons_succ])
      (refine W_at c21_ok ?_; refine ⟨_, rfl, ?_⟩; simp (disch := first | omega | assumption | rfl | (simp only [vcS] <;> omega) | fail) only [↓ptV_l, ↓vcA, vcB, ↓vcD, vcE, ↓reduceIte, Nat.reduceEqDiff, Nat.reduceAdd, Nat.reduceMul, Nat.reduceLeDiff, Int.reduceLE, Int.reduceLT, Int.reduceEq, Int.reduceToNat, Int.reduceAdd, Int.reduceSub, Int.reduceMul, Int.reduceNeg, reduceCtorEq, Option.bind_some, Option.map_some, List.length_cons, List.length_nil, vcM, List.getElem?_toArray, List.getElem?_cons_zero, List.getElem?_cons_succ])
      (refine W_at c21_ok ?_; refine ⟨_, rfl, ?_⟩; simp (disch := first | omega | assumption | rfl | (simp only [vcS] <;> omega) | fail) only [↓ptV_l, ↓vcA, vcB, ↓vcD, vcE, ↓reduceIte, Nat.reduceEqDiff, Nat.reduceAdd, Nat.reduceMul, Nat.reduceLeDiff, Int.reduceLE, Int.reduceLT, Int.reduceEq, Int.reduceToNat, Int.reduceAdd, Int.reduceSub, Int.reduceMul, Int.reduceNeg, reduceCtorEq, Option.bind_some, Option.map_some, List.length_cons, List.length_nil, vcM, List.getElem?_toArray, List.getElem?_cons_zero, List.getElem?_cons_succ, h0, Int.toNat_natCast, g1, u1, inS_is])
      generalize bs[i] = x at *
      refine callV_ret (index_ok wj inS x inS_byt b1) ?_
      rintro _ w1 ⟨rfl, hw⟩
      obtain rfl : wj = w1 := hw.symm
      first | (simp (disch := first | omega | assumption | rfl | (simp only [vcS] <;> omega) | fail) only [↓ptV_l, ↓vcA, vcB, ↓vcD, vcE, ↓reduceIte, Nat.reduceEqDiff, Nat.reduceAdd, Nat.reduceMul, Nat.reduceLeDiff, Int.reduceLE, Int.reduceLT, Int.reduceEq, Int.reduceToNat, Int.reduceAdd, Int.reduceSub, Int.reduceMul, Int.reduceNeg, reduceCtorEq, Option.bind_some, Option.map_some, List.length_cons, List.length_nil, vcM, List.getElem?_toArray, List.getElem?_cons_zero, List.getElem?_cons_succ]) | skip
      generalize hpp : placeF x inS 0 = p at *
      by_cases hneg : p < 0
      · have hc : checkF bs = none := by
          unfold checkF
          rw [if_neg]
          intro h
          have := of_decide_eq_true (List.all_eq_true.1 h p hmem)
          omega
        (refine W_at c21_ok ?_; refine ⟨_, rfl, ?_⟩; simp (disch := first | omega | assumption | rfl | (simp only [vcS] <;> omega) | fail) only [↓ptV_l, ↓vcA, vcB, ↓vcD, vcE, ↓reduceIte, Nat.reduceEqDiff, Nat.reduceAdd, Nat.reduceMul, Nat.reduceLeDiff, Int.reduceLE, Int.reduceLT, Int.reduceEq, Int.reduceToNat, Int.reduceAdd, Int.reduceSub, Int.reduceMul, Int.reduceNeg, reduceCtorEq, Option.bind_some, Option.map_some, List.length_cons, List.length_nil, vcM, List.getElem?_toArray, List.getElem?_cons_zero, List.getElem?_cons_succ, hneg])
        (refine W_at c21_ok ?_; refine ⟨_, rfl, ?_⟩; simp (disch := first | omega | assumption | rfl | (simp only [vcS] <;> omega) | fail) only [↓ptV_l, ↓vcA, vcB, ↓vcD, vcE, ↓reduceIte, Nat.reduceEqDiff, Nat.reduceAdd, Nat.reduceMul, Nat.reduceLeDiff, Int.reduceLE, Int.reduceLT, Int.reduceEq, Int.reduceToNat, Int.reduceAdd, Int.reduceSub, Int.reduceMul, Int.reduceNeg, reduceCtorEq, Option.bind_some, Option.map_some, List.length_cons, List.length_nil, vcM, List.getElem?_toArray, List.getElem?_cons_zero, List.getElem?_cons_succ])
        (refine W_at c21_ok ?_; refine ⟨_, rfl, ?_⟩; simp (disch := first | omega | assumption | rfl | (simp only [vcS] <;> omega) | fail) only [↓ptV_l, ↓vcA, vcB, ↓vcD, vcE, ↓reduceIte, Nat.reduceEqDiff, Nat.reduceAdd, Nat.reduceMul, Nat.reduceLeDiff, Int.reduceLE, Int.reduceLT, Int.reduceEq, Int.reduceToNat, Int.reduceAdd, Int.reduceSub, Int.reduceMul, Int.reduceNeg, reduceCtorEq, Option.bind_some, Option.map_some, List.length_cons, List.length_nil, vcM, List.getElem?_toArray, List.getElem?_cons_zero, List.getElem?_cons_succ])
        (refine W_at c21_ok ?_; refine ⟨_, rfl, ?_⟩; simp (disch := first | omega | assumption | rfl | (simp only [vcS] <;> omega) | fail) only [↓ptV_l, ↓vcA, vcB, ↓vcD, vcE, ↓reduceIte, Nat.reduceEqDiff, Nat.reduceAdd, Nat.reduceMul, Nat.reduceLeDiff, Int.reduceLE, Int.reduceLT, Int.reduceEq, Int.reduceToNat, Int.reduceAdd, Int.reduceSub, Int.reduceMul, Int.reduceNeg, reduceCtorEq, Option.bind_some, Option.map_some, List.length_cons, List.length_nil, vcM, List.getElem?_toArray, List.getElem?_cons_zero, List.getElem?_cons_succ, Ret_returned])
        exact ⟨by rw [hc]; rfl, hV.ext⟩
      · have hp94 : 0 ≤ p ∧ p ≤ 94 := by omega
        have a31 := and_31 hp94
        have s5 := shr_5 hp94
        have hall2 : ∀ q ∈ placesF (bs.take (i + 1)), 0 ≤ q := fun q hq => by
          rw [htake] at hq
          rcases List.mem_append.1 hq with hq | hq
          · exact hall q hq
          · rw [List.mem_singleton.1 hq]; exact hp94.1
        have hS2 := hS.step hp94
        rw [← hst] at hpt
        have hl1 := hS.l1
        have hl2 := hS.l2
        have hb2 := hS.b2
        obtain ⟨vs, gs⟩ := st
        simp only at hV hG hl1 hl2 hb2
        (refine W_at c21_ok ?_; refine ⟨_, rfl, ?_⟩; simp (disch := first | omega | assumption | rfl | (simp only [vcS] <;> omega) | fail) only [↓ptV_l, ↓vcA, vcB, ↓vcD, vcE, ↓reduceIte, Nat.reduceEqDiff, Nat.reduceAdd, Nat.reduceMul, Nat.reduceLeDiff, Int.reduceLE, Int.reduceLT, Int.reduceEq, Int.reduceToNat, Int.reduceAdd, Int.reduceSub, Int.reduceMul, Int.reduceNeg, reduceCtorEq, Option.bind_some, Option.map_some, List.length_cons, List.length_nil, vcM, List.getElem?_toArray, List.getElem?_cons_zero, List.getElem?_cons_succ, hneg])
        (refine W_at c21_ok ?_; refine ⟨_, rfl, ?_⟩; simp (disch := first | omega | assumption | rfl | (simp only [vcS] <;> omega) | fail) only [↓ptV_l, ↓vcA, vcB, ↓vcD, vcE, ↓reduceIte, Nat.reduceEqDiff, Nat.reduceAdd, Nat.reduceMul, Nat.reduceLeDiff, Int.reduceLE, Int.reduceLT, Int.reduceEq, Int.reduceToNat, Int.reduceAdd, Int.reduceSub, Int.reduceMul, Int.reduceNeg, reduceCtorEq, Option.bind_some, Option.map_some, List.length_cons, List.length_nil, vcM, List.getElem?_toArray, List.getElem?_cons_zero, List.getElem?_cons_succ])
        (refine W_at c21_ok ?_; refine ⟨_, rfl, ?_⟩; simp (disch := first | omega | assumption | rfl | (simp only [vcS] <;> omega) | fail) only [↓ptV_l, ↓vcA, vcB, ↓vcD, vcE, ↓reduceIte, Nat.reduceEqDiff, Nat.reduceAdd, Nat.reduceMul, Nat.reduceLeDiff, Int.reduceLE, Int.reduceLT, Int.reduceEq, Int.reduceToNat, Int.reduceAdd, Int.reduceSub, Int.reduceMul, Int.reduceNeg, reduceCtorEq, Option.bind_some, Option.map_some, List.length_cons, List.length_nil, vcM, List.getElem?_toArray, List.getElem?_cons_zero, List.getElem?_cons_succ, a31, s5])
        refine appNL (news := [p % 32]) hV (by simp; omega) fun v1 w1 n1 k1 f1 => ?_
        have hG1 : New w w1 gv gs := ⟨hG.own.keep k1 fun g h1 h2 => hdis g h2 h1, n1.ext, hG.new⟩
        have hdis1 : ∀ g, blk v1 g → ¬ blk gv g := fun g h1 h2 => by
          rcases f1 g h1 with h | h
          · exact hdis g h h2
          · have := hG.own.lt h2; omega
        first | (simp (disch := first | omega | assumption | rfl | (simp only [vcS] <;> omega) | fail) only [↓ptV_l, ↓vcA, vcB, ↓vcD, vcE, ↓reduceIte, Nat.reduceEqDiff, Nat.reduceAdd, Nat.reduceMul, Nat.reduceLeDiff, Int.reduceLE, Int.reduceLT, Int.reduceEq, Int.reduceToNat, Int.reduceAdd, Int.reduceSub, Int.reduceMul, Int.reduceNeg, reduceCtorEq, Option.bind_some, Option.map_some, List.length_cons, List.length_nil, vcM, List.getElem?_toArray, List.getElem?_cons_zero, List.getElem?_cons_succ]) | skip
        refine appNL (news := [p / 32]) hG1 (by simp; omega) fun v2 w2 n2 k2 f2 => ?_
        have hV2 : New w w2 v1 (vs ++ [p % 32]) := ⟨n1.own.keep k2 fun g h1 h2 => hdis1 g h1 h2, n2.ext, n1.new⟩
        have hdis2 : ∀ g, blk v1 g → ¬ blk v2 g := fun g h1 h2 => by
          rcases f2 g h2 with h | h
          · exact hdis1 g h1 h
          · have := n1.own.lt h1; omega
        first | (simp (disch := first | omega | assumption | rfl | (simp only [vcS] <;> omega) | fail) only [↓ptV_l, ↓vcA, vcB, ↓vcD, vcE, ↓reduceIte, Nat.reduceEqDiff, Nat.reduceAdd, Nat.reduceMul, Nat.reduceLeDiff, Int.reduceLE, Int.reduceLT, Int.reduceEq, Int.reduceToNat, Int.reduceAdd, Int.reduceSub, Int.reduceMul, Int.reduceNeg, reduceCtorEq, Option.bind_some, Option.map_some, List.length_cons, List.length_nil, vcM, List.getElem?_toArray, List.getElem?_cons_zero, List.getElem?_cons_succ]) | skip
        have next : ∀ (w3 : World) (v3 v4 : Value) (tl : Env), New w w3 v3 (stepV (vs, gs) p).1 → New w w3 v4 (stepV (vs, gs) p).2 → (∀ g, blk v3 g → ¬ blk v4 g) →
            W Tryd.prog (Ret fun u w' => u = .tuple #[.string (strOf ((checkF bs).getD [])), .int .i64 (if checkF bs = none then 3 else 0)] ∧ Ext w w') 21 19 ((0, .string (strOf bs)) :: (4, v3) :: (5, v4) :: (12, .int .i64 bs.length) :: (13, .int .i64 i) :: tl) w3 := by
          intro w3 v3 v4 tl h3 h4 hd
          (refine W_at c21_ok ?_; refine ⟨_, rfl, ?_⟩; simp (disch := first | omega | assumption | rfl | (simp only [vcS] <;> omega) | fail) only [↓ptV_l, ↓vcA, vcB, ↓vcD, vcE, ↓reduceIte, Nat.reduceEqDiff, Nat.reduceAdd, Nat.reduceMul, Nat.reduceLeDiff, Int.reduceLE, Int.reduceLT, Int.reduceEq, Int.reduceToNat, Int.reduceAdd, Int.reduceSub, Int.reduceMul, Int.reduceNeg, reduceCtorEq, Option.bind_some, Option.map_some, List.length_cons, List.length_nil, vcM, List.getElem?_toArray, List.getElem?_cons_zero, List.getElem?_cons_succ, hwi])
          (refine W_at c21_ok ?_; refine ⟨_, rfl, ?_⟩; simp (disch := first | omega | assumption | rfl | (simp only [vcS] <;> omega) | fail) only [↓ptV_l, ↓vcA, vcB, ↓vcD, vcE, ↓reduceIte, Nat.reduceEqDiff, Nat.reduceAdd, Nat.reduceMul, Nat.reduceLeDiff, Int.reduceLE, Int.reduceLT, Int.reduceEq, Int.reduceToNat, Int.reduceAdd, Int.reduceSub, Int.reduceMul, Int.reduceNeg, reduceCtorEq, Option.bind_some, Option.map_some, List.length_cons, List.length_nil, vcM, List.getElem?_toArray, List.getElem?_cons_zero, List.getElem?_cons_succ])
          exact ih (i + 1) w3 v3 v4 _ _ (by omega) h3 h4 hd hS2 hpt.symm hall2
        match gs, hb2, hl2, n2, next, hS2 with
        | [], _, _, n2, next, hS2 =>
          have hgl : lenR v2 = some (.int .i64 1) := n2.own.rd.len
          (refine W_at c21_ok ?_; refine ⟨_, rfl, ?_⟩; simp (disch := first | omega | assumption | rfl | (simp only [vcS] <;> omega) | fail) only [↓ptV_l, ↓vcA, vcB, ↓vcD, vcE, ↓reduceIte, Nat.reduceEqDiff, Nat.reduceAdd, Nat.reduceMul, Nat.reduceLeDiff, Int.reduceLE, Int.reduceLT, Int.reduceEq, Int.reduceToNat, Int.reduceAdd, Int.reduceSub, Int.reduceMul, Int.reduceNeg, reduceCtorEq, Option.bind_some, Option.map_some, List.length_cons, List.length_nil, vcM, List.getElem?_toArray, List.getElem?_cons_zero, List.getElem?_cons_succ, hgl])
          (refine W_at c21_ok ?_; refine ⟨_, rfl, ?_⟩; simp (disch := first | omega | assumption | rfl | (simp only [vcS] <;> omega) | fail) only [↓ptV_l, ↓vcA, vcB, ↓vcD, vcE, ↓reduceIte, Nat.reduceEqDiff, Nat.reduceAdd, Nat.reduceMul, Nat.reduceLeDiff, Int.reduceLE, Int.reduceLT, Int.reduceEq, Int.reduceToNat, Int.reduceAdd, Int.reduceSub, Int.reduceMul, Int.reduceNeg, reduceCtorEq, Option.bind_some, Option.map_some, List.length_cons, List.length_nil, vcM, List.getElem?_toArray, List.getElem?_cons_zero, List.getElem?_cons_succ])
          exact next w2 v1 v2 _ hV2 n2 hdis2
        | [a], _, _, n2, next, hS2 =>
          have hgl : lenR v2 = some (.int .i64 2) := n2.own.rd.len
          (refine W_at c21_ok ?_; refine ⟨_, rfl, ?_⟩; simp (disch := first | omega | assumption | rfl | (simp only [vcS] <;> omega) | fail) only [↓ptV_l, ↓vcA, vcB, ↓vcD, vcE, ↓reduceIte, Nat.reduceEqDiff, Nat.reduceAdd, Nat.reduceMul, Nat.reduceLeDiff, Int.reduceLE, Int.reduceLT, Int.reduceEq, Int.reduceToNat, Int.reduceAdd, Int.reduceSub, Int.reduceMul, Int.reduceNeg, reduceCtorEq, Option.bind_some, Option.map_some, List.length_cons, List.length_nil, vcM, List.getElem?_toArray, List.getElem?_cons_zero, List.getElem?_cons_succ, hgl])
          (refine W_at c21_ok ?_; refine ⟨_, rfl, ?_⟩; simp (disch := first | omega | assumption | rfl | (simp only [vcS] <;> omega) | fail) only [↓ptV_l, ↓vcA, vcB, ↓vcD, vcE, ↓reduceIte, Nat.reduceEqDiff, Nat.reduceAdd, Nat.reduceMul, Nat.reduceLeDiff, Int.reduceLE, Int.reduceLT, Int.reduceEq, Int.reduceToNat, Int.reduceAdd, Int.reduceSub, Int.reduceMul, Int.reduceNeg, reduceCtorEq, Option.bind_some, Option.map_some, List.length_cons, List.length_nil, vcM, List.getElem?_toArray, List.getElem?_cons_zero, List.getElem?_cons_succ])
          exact next w2 v1 v2 _ hV2 n2 hdis2
        | [a, b2], hb2, _, n2, next, hS2 =>
          have hgl : lenR v2 = some (.int .i64 3) := n2.own.rd.len
          have ha := hb2 a (by simp)
          have hbb := hb2 b2 (by simp)
          obtain ⟨b, o, c, hv2, hcell⟩ := n2.own.rd.at (i := 0) (by simp)
          have hv2' : v2 = .slice (some ⟨b, o, none⟩) 3 c := hv2
          clear hv2
          subst hv2'
          obtain ⟨_, _, _, e, hcell2⟩ := n2.own.rd.at (i := 1) (by simp)
          cases e
          obtain ⟨_, _, _, e, hcell3⟩ := n2.own.rd.at (i := 2) (by simp)
          cases e
          simp only [List.cons_append, List.nil_append, List.getElem_cons_zero, List.getElem_cons_succ, Nat.add_zero] at hcell hcell2 hcell3
          have m1 : IntKind.u8.wrap (9 * a) = 9 * a := by rw [wrap_u8]; omega
          have m2 : IntKind.u8.wrap (3 * b2) = 3 * b2 := by rw [wrap_u8]; omega
          have m3 : IntKind.u8.wrap (9 * a + 3 * b2) = 9 * a + 3 * b2 := by rw [wrap_u8]; omega
          have m4 : IntKind.u8.wrap (9 * a + 3 * b2 + p / 32) = 9 * a + 3 * b2 + p / 32 := by rw [wrap_u8]; omega
          (refine W_at c21_ok ?_; refine ⟨_, rfl, ?_⟩; simp (disch := first | omega | assumption | rfl | (simp only [vcS] <;> omega) | fail) only [↓ptV_l, ↓vcA, vcB, ↓vcD, vcE, ↓reduceIte, Nat.reduceEqDiff, Nat.reduceAdd, Nat.reduceMul, Nat.reduceLeDiff, Int.reduceLE, Int.reduceLT, Int.reduceEq, Int.reduceToNat, Int.reduceAdd, Int.reduceSub, Int.reduceMul, Int.reduceNeg, reduceCtorEq, Option.bind_some, Option.map_some, List.length_cons, List.length_nil, vcM, List.getElem?_toArray, List.getElem?_cons_zero, List.getElem?_cons_succ, hgl])
          (refine W_at c21_ok ?_; refine ⟨_, rfl, ?_⟩; simp (disch := first | omega | assumption | rfl | (simp only [vcS] <;> omega) | fail) only [↓ptV_l, ↓vcA, vcB, ↓vcD, vcE, ↓reduceIte, Nat.reduceEqDiff, Nat.reduceAdd, Nat.reduceMul, Nat.reduceLeDiff, Int.reduceLE, Int.reduceLT, Int.reduceEq, Int.reduceToNat, Int.reduceAdd, Int.reduceSub, Int.reduceMul, Int.reduceNeg, reduceCtorEq, Option.bind_some, Option.map_some, List.length_cons, List.length_nil, vcM, List.getElem?_toArray, List.getElem?_cons_zero, List.getElem?_cons_succ])
          (refine W_at c21_ok ?_; refine ⟨_, rfl, ?_⟩; simp (disch := first | omega | assumption | rfl | (simp only [vcS] <;> omega) | fail) only [↓ptV_l, ↓vcA, vcB, ↓vcD, vcE, ↓reduceIte, Nat.reduceEqDiff, Nat.reduceAdd, Nat.reduceMul, Nat.reduceLeDiff, Int.reduceLE, Int.reduceLT, Int.reduceEq, Int.reduceToNat, Int.reduceAdd, Int.reduceSub, Int.reduceMul, Int.reduceNeg, reduceCtorEq, Option.bind_some, Option.map_some, List.length_cons, List.length_nil, vcM, List.getElem?_toArray, List.getElem?_cons_zero, List.getElem?_cons_succ, hcell, hcell2, hcell3, m1, m2, m3, m4])
          refine appNL (news := [9 * a + 3 * b2 + p / 32]) (hV2.keep ((Keep.refl _ w2).drew)) (by simp; omega) fun v3 w3 n3 _ _ => ?_
          first | (simp (disch := first | omega | assumption | rfl | (simp only [vcS] <;> omega) | fail) only [↓ptV_l, ↓vcA, vcB, ↓vcD, vcE, ↓reduceIte, Nat.reduceEqDiff, Nat.reduceAdd, Nat.reduceMul, Nat.reduceLeDiff, Int.reduceLE, Int.reduceLT, Int.reduceEq, Int.reduceToNat, Int.reduceAdd, Int.reduceSub, Int.reduceMul, Int.reduceNeg, reduceCtorEq, Option.bind_some, Option.map_some, List.length_cons, List.length_nil, vcM, List.getElem?_toArray, List.getElem?_cons_zero, List.getElem?_cons_succ]) | skip
          exact next w3 v3 (.slice none 0 0) _ n3 ((New.nil w3).pre n3.ext) (fun g _ h => by cases h)
  exact L bs.length 0 w _ _ ([], []) _ (by omega) (New.nil w) (New.nil w) (fun g h => (by cases h)) ⟨byt_nil, (fun a h => by cases h), Nat.zero_le _, Nat.zero_le _⟩ rfl (fun p h => by simp [placesF] at h)
end Go.Proofs
namespace Go.Proofs
open Go.Vc
/- strongbox/text.base -/
def t43 : CT :=
  (.seq (.reg (.l (some 4) none (.box 3 (.tmp 1)) [] (.l (some 5) none (.box 3 (.tmp 2)) [] (.q (some 6) none (.mov (.const (.slice none 0 0))) .done))) false)
  (.seq (.reg (.l (some 7) none (.alloc 22 [(1, (.slice none 0 0))]) [] .done) false)
  (.seq (.seq (.reg (.q (some 13) none (.mov (.tmp 0)) (.l (some 14) none (.call 42 [(.tmp 13)]) [] .done)) false)
  (.blk 0 (.rng (.tmp 14) [15, 16] (.reg (.q (some 9) none (.mov (.tmp 16)) .done) false)
  (.blk 1 (.seq (.reg (.q (some 17) none (.mov (.tmp 9)) (.q (some 18) none (.cvi .i64 (.tmp 17)) (.q (some 10) none (.mov (.tmp 18)) .done))) false)
  (.seq (.seq (.reg (.q (some 19) none (.ld1 (.tmp 7)) (.q (some 20) none (.len (.tmp 19)) (.q (some 21) none (.mov (.const (.int .i64 0))) .done))) false)
  (.blk 2 (.loop (.seq (.reg (.q (some 22) none (.bin .lss (.tmp 21) (.tmp 20)) .done) false)
  (.seq (.cnd (.tmp 22) .skip
  (.exit 2))
  (.seq (.blk 3 (.seq (.reg (.q (some 23) none (.mov (.tmp 21)) (.q (some 24) none (.iadrS 1 (.tmp 19) (.tmp 21)) (.q (some 25) none (.ld1 (.tmp 24)) (.q (some 11) none (.mov (.tmp 23)) (.q (some 12) none (.mov (.tmp 25)) .done))))) false)
  (.seq (.reg (.q (some 26) none (.mov (.tmp 10)) (.q (some 27) none (.mov (.tmp 12)) (.q (some 28) none (.cvi .i64 (.tmp 27)) (.q (some 29) none (.ld1 (.tmp 4)) (.q (some 30) none (.bin .mul (.tmp 28) (.tmp 29)) (.q (some 31) none (.bin .add (.tmp 26) (.tmp 30)) (.q (some 10) none (.mov (.tmp 31)) .done))))))) false)
  (.seq (.reg (.q (some 32) none (.ld1 (.tmp 7)) (.q (some 33) none (.mov (.tmp 11)) (.q (some 34) none (.mov (.tmp 10)) (.q (some 35) none (.ld1 (.tmp 5)) (.q (some 36) none (.bin .rem (.tmp 34) (.tmp 35)) (.q (some 37) none (.cvi .u8 (.tmp 36)) (.q (some 38) none (.iadrS 1 (.tmp 32) (.tmp 33)) (.l none none (.st1 (.tmp 38) (.tmp 37)) [] .done)))))))) true)
  (.reg (.q (some 39) none (.mov (.tmp 10)) (.q (some 40) none (.ld1 (.tmp 5)) (.q (some 41) none (.bin .quo (.tmp 39) (.tmp 40)) (.q (some 10) none (.mov (.tmp 41)) .done)))) false)))))
  (.reg (.q (some 42) none (.bin .add (.tmp 21) (.const (.int .i64 1))) (.q (some 21) none (.mov (.tmp 42)) .done)) false)))))))
  (.blk 4 (.loop (.seq (.seq (.reg (.q (some 43) none (.mov (.tmp 10)) (.q (some 44) none (.bin .gtr (.tmp 43) (.const (.int .i64 0))) .done)) false)
  (.cnd (.tmp 44) .skip
  (.exit 4)))
  (.seq (.blk 5 (.reg (.q (some 48) none (.ld1 (.tmp 7)) (.q (some 49) none (.mov (.tmp 10)) (.q (some 50) none (.ld1 (.tmp 5)) (.q (some 51) none (.bin .rem (.tmp 49) (.tmp 50)) (.q (some 52) none (.cvi .u8 (.tmp 51)) (.l (some 53) none (.bldS 5 1 [(.tmp 52)]) [⟨48, none, (.ld1 (.tmp 7))⟩] (.l (some 54) none (.app 5 1 1 [(1, (.int .u8 0))] (.tmp 48) (.tmp 53)) [] (.l none none (.st1 (.tmp 7) (.tmp 54)) [] .done)))))))) true))
  (.reg (.q (some 45) none (.mov (.tmp 10)) (.q (some 46) none (.ld1 (.tmp 5)) (.q (some 47) none (.bin .quo (.tmp 45) (.tmp 46)) (.q (some 10) none (.mov (.tmp 47)) .done)))) false)))))))))))
  (.seq (.reg (.q (some 55) none (.ld1 (.tmp 7)) (.q (some 6) none (.mov (.tmp 55)) .done)) false)
  .ret))))
theorem t43_ok : ctOf Tryd.prog 43 false = some (56, [.t 6], t43) := by kernel_rfl
/- strongbox/text.Base58 -/
def t22 : CT :=
  (.seq (.reg (.q (some 2) none (.mov (.const (.string ⟨#[]⟩))) .done) false)
  (.seq (.reg (.q (some 9) none (.mov (.tmp 0)) (.q (some 10) none (.len (.tmp 9)) (.q (some 3) none (.mov (.tmp 10)) .done))) false)
  (.seq (.seq (.reg (.q (some 11) none (.mov (.tmp 0)) (.q (some 12) none (.len (.tmp 11)) (.q (some 13) none (.mov (.const (.int .i64 0))) .done))) false)
  (.blk 0 (.loop (.seq (.reg (.q (some 14) none (.bin .lss (.tmp 13) (.tmp 12)) .done) false)
  (.seq (.cnd (.tmp 14) .skip
  (.exit 0))
  (.seq (.blk 1 (.seq (.reg (.q (some 15) none (.mov (.tmp 13)) (.q (some 16) none (.iadrS 1 (.tmp 11) (.tmp 13)) (.q (some 17) none (.ld1 (.tmp 16)) (.q (some 4) none (.mov (.tmp 15)) (.q (some 5) none (.mov (.tmp 17)) .done))))) false)
  (.seq (.reg (.q (some 18) none (.mov (.tmp 5)) (.q (some 19) none (.bin .neq (.tmp 18) (.const (.int .u8 0))) .done)) false)
  (.cnd (.tmp 19) (.seq (.reg (.q (some 20) none (.mov (.tmp 4)) (.q (some 3) none (.mov (.tmp 20)) .done)) false)
  (.exit 0))
  .skip))))
  (.reg (.q (some 21) none (.bin .add (.tmp 13) (.const (.int .i64 1))) (.q (some 13) none (.mov (.tmp 21)) .done)) false)))))))
  (.seq (.reg (.q (some 22) none (.idxS (.const (.string ⟨#[49, 50, 51, 52, 53, 54, 55, 56, 57, 65, 66, 67, 68, 69, 70, 71, 72, 74, 75, 76, 77, 78, 80, 81, 82, 83, 84, 85, 86, 87, 88, 89, 90, 97, 98, 99, 100, 101, 102, 103, 104, 105, 106, 107, 109, 110, 111, 112, 113, 114, 115, 116, 117, 118, 119, 120, 121, 122]⟩)) (.const (.int .i64 0))) (.l (some 23) none (.bldS 5 1 [(.tmp 22)]) [] (.q (some 24) none (.mov (.tmp 3)) (.l (some 25) none (.call 41 [(.tmp 23), (.tmp 24)]) [] (.l (some 6) none (.alloc 22 [(1, (.slice none 0 0))]) [] (.l none none (.st1 (.tmp 6) (.tmp 25)) [] .done)))))) false)
  (.seq (.seq (.reg (.q (some 26) none (.mov (.tmp 0)) (.l (some 27) none (.call 44 [(.tmp 26)]) [] (.l (some 28) none (.call 43 [(.tmp 27), (.const (.int .i64 256)), (.const (.int .i64 58))]) [] (.l (some 29) none (.call 42 [(.tmp 28)]) [] .done)))) false)
  (.blk 2 (.rng (.tmp 29) [30, 31] (.reg (.q (some 8) none (.mov (.tmp 31)) .done) false)
  (.blk 3 (.reg (.q (some 32) none (.ld1 (.tmp 6)) (.q (some 33) none (.mov (.tmp 8)) (.q (some 34) none (.idxS (.const (.string ⟨#[49, 50, 51, 52, 53, 54, 55, 56, 57, 65, 66, 67, 68, 69, 70, 71, 72, 74, 75, 76, 77, 78, 80, 81, 82, 83, 84, 85, 86, 87, 88, 89, 90, 97, 98, 99, 100, 101, 102, 103, 104, 105, 106, 107, 109, 110, 111, 112, 113, 114, 115, 116, 117, 118, 119, 120, 121, 122]⟩)) (.tmp 33)) (.l (some 35) none (.bldS 5 1 [(.tmp 34)]) [⟨32, none, (.ld1 (.tmp 6))⟩] (.l (some 36) none (.app 5 1 1 [(1, (.int .u8 0))] (.tmp 32) (.tmp 35)) [] (.l none none (.st1 (.tmp 6) (.tmp 36)) [] .done)))))) true)))))
  (.seq (.reg (.q (some 37) none (.ld1 (.tmp 6)) (.q (some 38) none (.b2s (.tmp 37)) (.q (some 2) none (.mov (.tmp 38)) .done))) false)
  .ret))))))
theorem t22_ok : ctOf Tryd.prog 22 false = some (39, [.t 2], t22) := by kernel_rfl
/- slices.Backward[[]byte,byte]$1 -/
def t55 : CT :=
  (.seq (.reg (.q (some 4) none (.ld1 (.tmp 1)) (.q (some 5) none (.len (.tmp 4)) (.q (some 6) none (.bin .sub (.tmp 5) (.const (.int .i64 1))) (.q (some 3) none (.mov (.tmp 6)) .done)))) false)
  (.blk 0 (.loop (.seq (.seq (.reg (.q (some 7) none (.mov (.tmp 3)) (.q (some 8) none (.bin .geq (.tmp 7) (.const (.int .i64 0))) .done)) false)
  (.cnd (.tmp 8) .skip
  (.exit 0)))
  (.seq (.blk 1 (.seq (.yld (.q (some 11) none (.mov (.tmp 0)) (.q (some 12) none (.mov (.tmp 3)) (.q (some 13) none (.ld1 (.tmp 1)) (.q (some 14) none (.mov (.tmp 3)) (.q (some 15) none (.iadrS 1 (.tmp 13) (.tmp 14)) (.q (some 16) none (.ld1 (.tmp 15)) .done)))))) (some 17) (.tmp 11) [(.tmp 12), (.tmp 16)] (.q (some 18) none (.not (.tmp 17)) .done))
  (.cnd (.tmp 18) .ret
  .skip)))
  (.reg (.q (some 9) none (.mov (.tmp 3)) (.q (some 10) none (.bin .sub (.tmp 9) (.const (.int .i64 1))) (.q (some 3) none (.mov (.tmp 10)) .done))) false))))))
theorem t55_ok : ctOf Tryd.prog 55 true = some (19, [], t55) := by kernel_rfl
end Go.Proofs
namespace Go.Proofs
open Go.Vc Go.RowKit
set_option maxRecDepth 10000

def bkL (k j : Nat) : List (Fin k) := (List.finRange k).reverse.take j
theorem bkL_len {k j : Nat} (h : j ≤ k) : (bkL k j).length = j := by simp [bkL]; omega
theorem bkL_succ {k j : Nat} (h : j < k) : bkL k (j + 1) = bkL k j ++ [⟨k - 1 - j, by omega⟩] := by
  unfold bkL
  rw [List.take_add_one, List.getElem?_eq_getElem (by simpa using h)]
  simp
theorem Own1.kp {w w' : World} {v : Value} {bs : List Int} (h : Own1 w v bs) (k : ∀ g, Go.Proofs.blk v g → w'.heap[g]? = w.heap[g]?) : Own1 w' v bs := by
  obtain ⟨hs, h | ⟨g, cap, cur, rfl, hb, hg, r⟩⟩ := h
  · exact ⟨hs, .inl h⟩
  · exact ⟨hs, .inr ⟨g, cap, cur, rfl, hb, (k g rfl).trans hg, r⟩⟩
set_option maxHeartbeats 1600000 in
theorem back_stops (w0 : World) (b1 : Nat) (qv : Value) (ids : List Int) (T1 : TypeId) (h1 : w0.heap[b1]? = some (.cells #[qv] T1 (0, 0))) (hq : Own1 w0 qv ids) (hl : ids.length ≤ 1000000) :
    SeqStopsK (fen none) 2 Tryd.prog 55 #[.pointer (some ⟨b1, 0, none⟩)] (fun i : Fin ids.length => #[.int .i64 (i.val : Nat), .int .u8 ids[i.val]]) (KpB (b1 :: qv.ownBlock.toList))
      (fun xs => xs = (List.finRange ids.length).reverse) (fun pre => ∃ j, pre = bkL ids.length j) ids.length w0 := by
  intro l J Jx W hW hJ hJx hY h0
  refine callsIn_of_ct t55_ok (Nat.le_of_ble_eq_true rfl) ?_
  simp only [List.toList_toArray, Array.toList_append, List.cons_append, List.nil_append]
  simp only [argE_nil, argE_cons, Nat.reduceAdd, Nat.zero_add]
  have m1 := (hW.block b1 (Array.getElem?_eq_some_iff.1 h1).1).trans h1
  have q1 : Own1 W qv ids := hq.kp fun g hg => hW.block g (hq.lt hg)
  have hlen := hq.rd.len
  have hws : IntKind.i64.wrap ((ids.length : Int) - 1) = (ids.length : Int) - 1 := wrap_i64 (by omega) (by omega)
  simp (disch := first | omega | assumption | rfl | (simp only [vcS] <;> omega) | fail) only [t55, ↓vcC, slc3_s, ↓ptV_l, ↓vcA, vcB, ↓vcD, vcE, ↓reduceIte, Nat.reduceEqDiff, Nat.reduceAdd, Nat.reduceMul, Nat.reduceLeDiff, Int.reduceLE, Int.reduceLT, Int.reduceEq, Int.reduceToNat, Int.reduceAdd, Int.reduceSub, Int.reduceMul, Int.reduceNeg, reduceCtorEq, Option.bind_some, Option.map_some, List.length_cons, List.length_nil, vcM, List.getElem?_toArray, List.getElem?_cons_zero, List.getElem?_cons_succ, m1, hlen, hws]
  (refine nx_at ?_; simp (disch := first | omega | assumption | rfl | (simp only [vcS] <;> omega) | fail) only [↓vcC, slc3_s, ↓ptV_l, ↓vcA, vcB, ↓vcD, vcE, ↓reduceIte, Nat.reduceEqDiff, Nat.reduceAdd, Nat.reduceMul, Nat.reduceLeDiff, Int.reduceLE, Int.reduceLT, Int.reduceEq, Int.reduceToNat, Int.reduceAdd, Int.reduceSub, Int.reduceMul, Int.reduceNeg, reduceCtorEq, Option.bind_some, Option.map_some, List.length_cons, List.length_nil, vcM, List.getElem?_toArray, List.getElem?_cons_zero, List.getElem?_cons_succ])
  refine lp_of (fun j ds e W => ds = [] ∧ ∃ i, i + j = ids.length ∧ Vc.look e 3 = some (.int .i64 ((ids.length : Int) - 1 - (i : Nat))) ∧ Vc.look e 0 = some (.func (.yield l) #[] #[]) ∧ Vc.look e 1 = some (.pointer (some ⟨b1, 0, none⟩)) ∧
    J (bkL ids.length i) W ∧ W.heap[b1]? = some (.cells #[qv] T1 (0, 0)) ∧ Own1 W qv ids) ids.length ?_ ?_
  · exact ⟨rfl, 0, by omega, by simp [Vc.look], rfl, rfl, h0, m1, q1⟩
  clear h0 m1 hW q1
  generalize W.heap.size = B at hJ hJx
  clear W
  rintro j ds e W ⟨rfl, i, hi, l3, l0, l1, hJi, m1, q1⟩
  by_cases hik : i < ids.length
  · have c1 : 0 ≤ (ids.length : Int) - 1 - (i : Nat) := by omega
    simp (disch := first | omega | assumption | rfl | (simp only [vcS] <;> omega) | fail) only [↓vcC, slc3_s, ↓ptV_l, ↓vcA, vcB, ↓vcD, vcE, ↓reduceIte, Nat.reduceEqDiff, Nat.reduceAdd, Nat.reduceMul, Nat.reduceLeDiff, Int.reduceLE, Int.reduceLT, Int.reduceEq, Int.reduceToNat, Int.reduceAdd, Int.reduceSub, Int.reduceMul, Int.reduceNeg, reduceCtorEq, Option.bind_some, Option.map_some, List.length_cons, List.length_nil, vcM, List.getElem?_toArray, List.getElem?_cons_zero, List.getElem?_cons_succ, l3, c1]
    (refine nx_at ?_; simp (disch := first | omega | assumption | rfl | (simp only [vcS] <;> omega) | fail) only [↓vcC, slc3_s, ↓ptV_l, ↓vcA, vcB, ↓vcD, vcE, ↓reduceIte, Nat.reduceEqDiff, Nat.reduceAdd, Nat.reduceMul, Nat.reduceLeDiff, Int.reduceLE, Int.reduceLT, Int.reduceEq, Int.reduceToNat, Int.reduceAdd, Int.reduceSub, Int.reduceMul, Int.reduceNeg, reduceCtorEq, Option.bind_some, Option.map_some, List.length_cons, List.length_nil, vcM, List.getElem?_toArray, List.getElem?_cons_zero, List.getElem?_cons_succ])
    obtain ⟨g, o, cap, rfl, hrd⟩ := q1.rd.at (i := ids.length - 1 - i) (by omega)
    have c2 : (ids.length : Int) - 1 - (i : Nat) = ((ids.length - 1 - i : Nat) : Int) := by omega
    rw [c2] at l3 c1
    have c3 : 0 ≤ ((ids.length - 1 - i : Nat) : Int) ∧ ((ids.length - 1 - i : Nat) : Int) < (ids.length : Nat) := by omega
    (refine nx_at ?_; simp (disch := first | omega | assumption | rfl | (simp only [vcS] <;> omega) | fail) only [↓vcC, slc3_s, ↓ptV_l, ↓vcA, vcB, ↓vcD, vcE, ↓reduceIte, Nat.reduceEqDiff, Nat.reduceAdd, Nat.reduceMul, Nat.reduceLeDiff, Int.reduceLE, Int.reduceLT, Int.reduceEq, Int.reduceToNat, Int.reduceAdd, Int.reduceSub, Int.reduceMul, Int.reduceNeg, reduceCtorEq, Option.bind_some, Option.map_some, List.length_cons, List.length_nil, vcM, List.getElem?_toArray, List.getElem?_cons_zero, List.getElem?_cons_succ, l3, l0, l1, m1, c3, Int.toNat_natCast, Nat.mul_one, hrd])
    refine yv_of (hY (bkL ids.length i) ⟨ids.length - 1 - i, by omega⟩ W hJi (by rw [bkL_len (by omega)]; exact hik)) ?_
    rintro en W2 (⟨rfl, hJ2, hB2⟩ | ⟨rfl, hJx2⟩)
    · refine ⟨_, rfl, ?_⟩
      have m1' := (hB2 b1 (by simp)).trans m1
      have q2 := q1.kp fun g' hg' => hB2 g' (by
        have hg2 : (Value.slice (some ⟨g, o, none⟩) ids.length cap).ownBlock = some g' := hg'
        rw [hg2]; simp)
      have c4 : IntKind.i64.wrap (((ids.length - 1 - i : Nat) : Int) - 1) = (ids.length : Int) - 1 - ((i + 1 : Nat)) := by rw [wrap_i64 (by omega) (by omega)]; omega
      simp (disch := first | omega | assumption | rfl | (simp only [vcS] <;> omega) | fail) only [↓vcC, slc3_s, ↓ptV_l, ↓vcA, vcB, ↓vcD, vcE, ↓reduceIte, Nat.reduceEqDiff, Nat.reduceAdd, Nat.reduceMul, Nat.reduceLeDiff, Int.reduceLE, Int.reduceLT, Int.reduceEq, Int.reduceToNat, Int.reduceAdd, Int.reduceSub, Int.reduceMul, Int.reduceNeg, reduceCtorEq, Option.bind_some, Option.map_some, List.length_cons, List.length_nil, vcM, List.getElem?_toArray, List.getElem?_cons_zero, List.getElem?_cons_succ]
      (refine nx_at ?_; simp (disch := first | omega | assumption | rfl | (simp only [vcS] <;> omega) | fail) only [↓vcC, slc3_s, ↓ptV_l, ↓vcA, vcB, ↓vcD, vcE, ↓reduceIte, Nat.reduceEqDiff, Nat.reduceAdd, Nat.reduceMul, Nat.reduceLeDiff, Int.reduceLE, Int.reduceLT, Int.reduceEq, Int.reduceToNat, Int.reduceAdd, Int.reduceSub, Int.reduceMul, Int.reduceNeg, reduceCtorEq, Option.bind_some, Option.map_some, List.length_cons, List.length_nil, vcM, List.getElem?_toArray, List.getElem?_cons_zero, List.getElem?_cons_succ])
      (refine nx_at ?_; simp (disch := first | omega | assumption | rfl | (simp only [vcS] <;> omega) | fail) only [↓vcC, slc3_s, ↓ptV_l, ↓vcA, vcB, ↓vcD, vcE, ↓reduceIte, Nat.reduceEqDiff, Nat.reduceAdd, Nat.reduceMul, Nat.reduceLeDiff, Int.reduceLE, Int.reduceLT, Int.reduceEq, Int.reduceToNat, Int.reduceAdd, Int.reduceSub, Int.reduceMul, Int.reduceNeg, reduceCtorEq, Option.bind_some, Option.map_some, List.length_cons, List.length_nil, vcM, List.getElem?_toArray, List.getElem?_cons_zero, List.getElem?_cons_succ, l3, l1, m1', c4])
      refine ⟨j - 1, by omega, i + 1, by omega, rfl, l0, by rw [bkL_succ hik]; exact hJ2, q2⟩
    · refine ⟨_, rfl, ?_⟩
      simp (disch := first | omega | assumption | rfl | (simp only [vcS] <;> omega) | fail) only [↓vcC, slc3_s, ↓ptV_l, ↓vcA, vcB, ↓vcD, vcE, ↓reduceIte, Nat.reduceEqDiff, Nat.reduceAdd, Nat.reduceMul, Nat.reduceLeDiff, Int.reduceLE, Int.reduceLT, Int.reduceEq, Int.reduceToNat, Int.reduceAdd, Int.reduceSub, Int.reduceMul, Int.reduceNeg, reduceCtorEq, Option.bind_some, Option.map_some, List.length_cons, List.length_nil, vcM, List.getElem?_toArray, List.getElem?_cons_zero, List.getElem?_cons_succ]
      (refine nx_at ?_; simp (disch := first | omega | assumption | rfl | (simp only [vcS] <;> omega) | fail) only [↓vcC, slc3_s, ↓ptV_l, ↓vcA, vcB, ↓vcD, vcE, ↓reduceIte, Nat.reduceEqDiff, Nat.reduceAdd, Nat.reduceMul, Nat.reduceLeDiff, Int.reduceLE, Int.reduceLT, Int.reduceEq, Int.reduceToNat, Int.reduceAdd, Int.reduceSub, Int.reduceMul, Int.reduceNeg, reduceCtorEq, Option.bind_some, Option.map_some, List.length_cons, List.length_nil, vcM, List.getElem?_toArray, List.getElem?_cons_zero, List.getElem?_cons_succ])
      exact ⟨⟨_, rfl⟩, .inr ⟨_, ⟨i + 1, (bkL_succ hik).symm⟩, hJx2⟩⟩
  · obtain rfl : i = ids.length := by omega
    have c1 : ¬ 0 ≤ (ids.length : Int) - 1 - (ids.length : Nat) := by omega
    simp (disch := first | omega | assumption | rfl | (simp only [vcS] <;> omega) | fail) only [↓vcC, slc3_s, ↓ptV_l, ↓vcA, vcB, ↓vcD, vcE, ↓reduceIte, Nat.reduceEqDiff, Nat.reduceAdd, Nat.reduceMul, Nat.reduceLeDiff, Int.reduceLE, Int.reduceLT, Int.reduceEq, Int.reduceToNat, Int.reduceAdd, Int.reduceSub, Int.reduceMul, Int.reduceNeg, reduceCtorEq, Option.bind_some, Option.map_some, List.length_cons, List.length_nil, vcM, List.getElem?_toArray, List.getElem?_cons_zero, List.getElem?_cons_succ, l3, c1]
    (refine nx_at ?_; simp (disch := first | omega | assumption | rfl | (simp only [vcS] <;> omega) | fail) only [↓vcC, slc3_s, ↓ptV_l, ↓vcA, vcB, ↓vcD, vcE, ↓reduceIte, Nat.reduceEqDiff, Nat.reduceAdd, Nat.reduceMul, Nat.reduceLeDiff, Int.reduceLE, Int.reduceLT, Int.reduceEq, Int.reduceToNat, Int.reduceAdd, Int.reduceSub, Int.reduceMul, Int.reduceNeg, reduceCtorEq, Option.bind_some, Option.map_some, List.length_cons, List.length_nil, vcM, List.getElem?_toArray, List.getElem?_cons_zero, List.getElem?_cons_succ])
    refine ⟨⟨_, rfl⟩, .inl ⟨_, rfl, ?_⟩⟩
    unfold bkL at hJi
    rwa [List.take_of_length_le (by simp)] at hJi
theorem back_ok (w : World) (x : Value) (hx : x.cells = #[x]) :
    Calls Tryd.prog 42 #[x] w (Ret fun u w' => ∃ b1 T1, u = .func (.func 55) #[] #[.pointer (some ⟨b1, 0, none⟩)] ∧
      w'.heap[b1]? = some (.cells #[x] T1 (0, 0)) ∧ Ext w w' ∧ b1 < w'.heap.size ∧ w.heap.size ≤ b1 ∧ T1 = 22) := by
  refine calls_of_cfg c42_ok (Nat.le_of_ble_eq_true rfl) ?_
  simp only [argE_nil, argE_cons, Nat.reduceAdd, Nat.zero_add]
  (refine W_at c42_ok ?_; refine ⟨_, rfl, ?_⟩; simp (disch := first | omega | assumption | rfl | (simp only [vcS] <;> omega) | fail) only [↓ptV_l, ↓vcA, vcB, ↓vcD, vcE, ↓reduceIte, Nat.reduceEqDiff, Nat.reduceAdd, Nat.reduceMul, Nat.reduceLeDiff, Int.reduceLE, Int.reduceLT, Int.reduceEq, Int.reduceToNat, Int.reduceAdd, Int.reduceSub, Int.reduceMul, Int.reduceNeg, reduceCtorEq, Option.bind_some, Option.map_some, List.length_cons, List.length_nil, vcM, List.getElem?_toArray, List.getElem?_cons_zero, List.getElem?_cons_succ, hx])
  (refine W_at c42_ok ?_; refine ⟨_, rfl, ?_⟩; simp (disch := first | omega | assumption | rfl | (simp only [vcS] <;> omega) | fail) only [↓ptV_l, ↓vcA, vcB, ↓vcD, vcE, ↓reduceIte, Nat.reduceEqDiff, Nat.reduceAdd, Nat.reduceMul, Nat.reduceLeDiff, Int.reduceLE, Int.reduceLT, Int.reduceEq, Int.reduceToNat, Int.reduceAdd, Int.reduceSub, Int.reduceMul, Int.reduceNeg, reduceCtorEq, Option.bind_some, Option.map_some, List.length_cons, List.length_nil, vcM, List.getElem?_toArray, List.getElem?_cons_zero, List.getElem?_cons_succ])
  (refine W_at c42_ok ?_; refine ⟨_, rfl, ?_⟩; simp (disch := first | omega | assumption | rfl | (simp only [vcS] <;> omega) | fail) only [↓ptV_l, ↓vcA, vcB, ↓vcD, vcE, ↓reduceIte, Nat.reduceEqDiff, Nat.reduceAdd, Nat.reduceMul, Nat.reduceLeDiff, Int.reduceLE, Int.reduceLT, Int.reduceEq, Int.reduceToNat, Int.reduceAdd, Int.reduceSub, Int.reduceMul, Int.reduceNeg, reduceCtorEq, Option.bind_some, Option.map_some, List.length_cons, List.length_nil, vcM, List.getElem?_toArray, List.getElem?_cons_zero, List.getElem?_cons_succ, Ret_returned])
  exact ⟨_, _, rfl, heap_new _ _ _ rfl, (Keep.refl _ w).alloc _, by omega, Nat.le_refl _, rfl⟩
theorem turned3_ok (w : World) (v : Value) (a b c : Int) (h : Rd w v [a, b, c]) :
    Calls Tryd.prog 44 #[v] w (Ret fun u w' => New w w' u [c, b, a]) := by
  refine calls_of_cfg c44_ok (Nat.le_of_ble_eq_true rfl) ?_
  simp only [argE_nil, argE_cons, Nat.reduceAdd, Nat.zero_add]
  (refine W_at c44_ok ?_; refine ⟨_, rfl, ?_⟩; simp (disch := first | omega | assumption | rfl | (simp only [vcS] <;> omega) | fail) only [↓ptV_l, ↓vcA, vcB, ↓vcD, vcE, ↓reduceIte, Nat.reduceEqDiff, Nat.reduceAdd, Nat.reduceMul, Nat.reduceLeDiff, Int.reduceLE, Int.reduceLT, Int.reduceEq, Int.reduceToNat, Int.reduceAdd, Int.reduceSub, Int.reduceMul, Int.reduceNeg, reduceCtorEq, Option.bind_some, Option.map_some, List.length_cons, List.length_nil, vcM, List.getElem?_toArray, List.getElem?_cons_zero, List.getElem?_cons_succ])
  (refine W_at c44_ok ?_; refine ⟨_, rfl, ?_⟩; simp (disch := first | omega | assumption | rfl | (simp only [vcS] <;> omega) | fail) only [↓ptV_l, ↓vcA, vcB, ↓vcD, vcE, ↓reduceIte, Nat.reduceEqDiff, Nat.reduceAdd, Nat.reduceMul, Nat.reduceLeDiff, Int.reduceLE, Int.reduceLT, Int.reduceEq, Int.reduceToNat, Int.reduceAdd, Int.reduceSub, Int.reduceMul, Int.reduceNeg, reduceCtorEq, Option.bind_some, Option.map_some, List.length_cons, List.length_nil, vcM, List.getElem?_toArray, List.getElem?_cons_zero, List.getElem?_cons_succ])
  refine callV_ret (sclone_ok w v _ h (by simp)) ?_
  rintro u w1 hN
  first | (simp (disch := first | omega | assumption | rfl | (simp only [vcS] <;> omega) | fail) only [↓ptV_l, ↓vcA, vcB, ↓vcD, vcE, ↓reduceIte, Nat.reduceEqDiff, Nat.reduceAdd, Nat.reduceMul, Nat.reduceLeDiff, Int.reduceLE, Int.reduceLT, Int.reduceEq, Int.reduceToNat, Int.reduceAdd, Int.reduceSub, Int.reduceMul, Int.reduceNeg, reduceCtorEq, Option.bind_some, Option.map_some, List.length_cons, List.length_nil, vcM, List.getElem?_toArray, List.getElem?_cons_zero, List.getElem?_cons_succ]) | skip
  (refine W_at c44_ok ?_; refine ⟨_, rfl, ?_⟩; simp (disch := first | omega | assumption | rfl | (simp only [vcS] <;> omega) | fail) only [↓ptV_l, ↓vcA, vcB, ↓vcD, vcE, ↓reduceIte, Nat.reduceEqDiff, Nat.reduceAdd, Nat.reduceMul, Nat.reduceLeDiff, Int.reduceLE, Int.reduceLT, Int.reduceEq, Int.reduceToNat, Int.reduceAdd, Int.reduceSub, Int.reduceMul, Int.reduceNeg, reduceCtorEq, Option.bind_some, Option.map_some, List.length_cons, List.length_nil, vcM, List.getElem?_toArray, List.getElem?_cons_zero, List.getElem?_cons_succ])
  have rev : Calls Tryd.prog 56 #[u] w1 (Ret fun _ w' => New w w' u [c, b, a]) := by
    refine calls_of_cfg c56_ok (Nat.le_of_ble_eq_true rfl) ?_
    simp only [argE_nil, argE_cons, Nat.reduceAdd, Nat.zero_add]
    have hlen : lenR u = some (.int .i64 3) := hN.own.rd.len
    obtain ⟨g, o, cap, hu, hcell⟩ := hN.own.rd.at (i := 0) (by simp)
    obtain ⟨_, _, _, e, hcell2⟩ := hN.own.rd.at (i := 2) (by simp)
    have hg0 : o = 0 := by
      rcases hN.own.2 with ⟨e1, _⟩ | ⟨g', cap', cur', e1, _⟩
      · rw [hu] at e1; cases e1
      · rw [hu] at e1; cases e1; rfl
    subst hg0
    have hu' : u = .slice (some ⟨g, 0, none⟩) 3 cap := hu
    rw [hu] at e
    cases e
    clear hu
    subst hu'
    simp only [List.getElem_cons_zero, List.getElem_cons_succ] at hcell hcell2
    have k2 : IntKind.i64.wrap 2 = 2 := by decide
    have k1 : IntKind.i64.wrap 1 = 1 := by decide
    have hp : ∃ cur, w1.heap[g]? = some (.cells cur 5 (0, 0)) ∧ 3 ≤ cur.size := by
      rcases hN.own.2 with ⟨e1, _⟩ | ⟨g', cap', cur', e1, _, hg, hn, _, hcs, _⟩
      · cases e1
      · cases e1; exact ⟨_, hg, by rw [hcs]; simp at hn; omega⟩
    obtain ⟨cur, hg, hcs⟩ := hp
    rw [Nat.zero_add] at hcell hcell2
    (refine W_at c56_ok ?_; refine ⟨_, rfl, ?_⟩; simp (disch := first | omega | assumption | rfl | (simp only [vcS] <;> omega) | fail) only [↓ptV_l, ↓vcA, vcB, ↓vcD, vcE, ↓reduceIte, Nat.reduceEqDiff, Nat.reduceAdd, Nat.reduceMul, Nat.reduceLeDiff, Int.reduceLE, Int.reduceLT, Int.reduceEq, Int.reduceToNat, Int.reduceAdd, Int.reduceSub, Int.reduceMul, Int.reduceNeg, reduceCtorEq, Option.bind_some, Option.map_some, List.length_cons, List.length_nil, vcM, List.getElem?_toArray, List.getElem?_cons_zero, List.getElem?_cons_succ, hlen, k2])
    (refine W_at c56_ok ?_; refine ⟨_, rfl, ?_⟩; simp (disch := first | omega | assumption | rfl | (simp only [vcS] <;> omega) | fail) only [↓ptV_l, ↓vcA, vcB, ↓vcD, vcE, ↓reduceIte, Nat.reduceEqDiff, Nat.reduceAdd, Nat.reduceMul, Nat.reduceLeDiff, Int.reduceLE, Int.reduceLT, Int.reduceEq, Int.reduceToNat, Int.reduceAdd, Int.reduceSub, Int.reduceMul, Int.reduceNeg, reduceCtorEq, Option.bind_some, Option.map_some, List.length_cons, List.length_nil, vcM, List.getElem?_toArray, List.getElem?_cons_zero, List.getElem?_cons_succ])
    (refine W_at c56_ok ?_; refine ⟨_, rfl, ?_⟩; simp (disch := first | omega | assumption | rfl | (simp only [vcS] <;> omega) | fail) only [↓ptV_l, ↓vcA, vcB, ↓vcD, vcE, ↓reduceIte, Nat.reduceEqDiff, Nat.reduceAdd, Nat.reduceMul, Nat.reduceLeDiff, Int.reduceLE, Int.reduceLT, Int.reduceEq, Int.reduceToNat, Int.reduceAdd, Int.reduceSub, Int.reduceMul, Int.reduceNeg, reduceCtorEq, Option.bind_some, Option.map_some, List.length_cons, List.length_nil, vcM, List.getElem?_toArray, List.getElem?_cons_zero, List.getElem?_cons_succ])
    (refine W_at c56_ok ?_; refine ⟨_, rfl, ?_⟩; simp (disch := first | omega | assumption | rfl | (simp only [vcS] <;> omega) | fail) only [↓ptV_l, ↓vcA, vcB, ↓vcD, vcE, ↓reduceIte, Nat.reduceEqDiff, Nat.reduceAdd, Nat.reduceMul, Nat.reduceLeDiff, Int.reduceLE, Int.reduceLT, Int.reduceEq, Int.reduceToNat, Int.reduceAdd, Int.reduceSub, Int.reduceMul, Int.reduceNeg, reduceCtorEq, Option.bind_some, Option.map_some, List.length_cons, List.length_nil, vcM, List.getElem?_toArray, List.getElem?_cons_zero, List.getElem?_cons_succ, Nat.mul_one, hcell, hcell2])
    obtain ⟨r1, o1⟩ := (hN.own.ext ((Keep.refl _ w1).drew)).set1 (i := 0) (by simp) c
    have kk : Keep (fun i => i = g) w1 (w1.drew.setCell ⟨g, 0, none⟩ (.int .u8 c)) := ((Keep.refl _ w1).drew).setCell _ fun _ => rfl
    first | (refine ⟨r1, ?_⟩) | skip
    generalize World.setCell _ _ _ = w2 at o1 kk ⊢
    obtain ⟨r2, o2⟩ := o1.set1 (i := 2) (by simp) a
    have kk2 := kk.setCell (b := g) (o := 2) (s := none) (.int .u8 a) fun _ => rfl
    first | (refine ⟨r2, ?_⟩) | skip
    generalize World.setCell _ _ _ = w3 at o2 kk2 ⊢
    (refine W_at c56_ok ?_; refine ⟨_, rfl, ?_⟩; simp (disch := first | omega | assumption | rfl | (simp only [vcS] <;> omega) | fail) only [↓ptV_l, ↓vcA, vcB, ↓vcD, vcE, ↓reduceIte, Nat.reduceEqDiff, Nat.reduceAdd, Nat.reduceMul, Nat.reduceLeDiff, Int.reduceLE, Int.reduceLT, Int.reduceEq, Int.reduceToNat, Int.reduceAdd, Int.reduceSub, Int.reduceMul, Int.reduceNeg, reduceCtorEq, Option.bind_some, Option.map_some, List.length_cons, List.length_nil, vcM, List.getElem?_toArray, List.getElem?_cons_zero, List.getElem?_cons_succ, k1])
    (refine W_at c56_ok ?_; refine ⟨_, rfl, ?_⟩; simp (disch := first | omega | assumption | rfl | (simp only [vcS] <;> omega) | fail) only [↓ptV_l, ↓vcA, vcB, ↓vcD, vcE, ↓reduceIte, Nat.reduceEqDiff, Nat.reduceAdd, Nat.reduceMul, Nat.reduceLeDiff, Int.reduceLE, Int.reduceLT, Int.reduceEq, Int.reduceToNat, Int.reduceAdd, Int.reduceSub, Int.reduceMul, Int.reduceNeg, reduceCtorEq, Option.bind_some, Option.map_some, List.length_cons, List.length_nil, vcM, List.getElem?_toArray, List.getElem?_cons_zero, List.getElem?_cons_succ])
    (refine W_at c56_ok ?_; refine ⟨_, rfl, ?_⟩; simp (disch := first | omega | assumption | rfl | (simp only [vcS] <;> omega) | fail) only [↓ptV_l, ↓vcA, vcB, ↓vcD, vcE, ↓reduceIte, Nat.reduceEqDiff, Nat.reduceAdd, Nat.reduceMul, Nat.reduceLeDiff, Int.reduceLE, Int.reduceLT, Int.reduceEq, Int.reduceToNat, Int.reduceAdd, Int.reduceSub, Int.reduceMul, Int.reduceNeg, reduceCtorEq, Option.bind_some, Option.map_some, List.length_cons, List.length_nil, vcM, List.getElem?_toArray, List.getElem?_cons_zero, List.getElem?_cons_succ])
    (refine W_at c56_ok ?_; refine ⟨_, rfl, ?_⟩; simp (disch := first | omega | assumption | rfl | (simp only [vcS] <;> omega) | fail) only [↓ptV_l, ↓vcA, vcB, ↓vcD, vcE, ↓reduceIte, Nat.reduceEqDiff, Nat.reduceAdd, Nat.reduceMul, Nat.reduceLeDiff, Int.reduceLE, Int.reduceLT, Int.reduceEq, Int.reduceToNat, Int.reduceAdd, Int.reduceSub, Int.reduceMul, Int.reduceNeg, reduceCtorEq, Option.bind_some, Option.map_some, List.length_cons, List.length_nil, vcM, List.getElem?_toArray, List.getElem?_cons_zero, List.getElem?_cons_succ])
    (refine W_at c56_ok ?_; refine ⟨_, rfl, ?_⟩; simp (disch := first | omega | assumption | rfl | (simp only [vcS] <;> omega) | fail) only [↓ptV_l, ↓vcA, vcB, ↓vcD, vcE, ↓reduceIte, Nat.reduceEqDiff, Nat.reduceAdd, Nat.reduceMul, Nat.reduceLeDiff, Int.reduceLE, Int.reduceLT, Int.reduceEq, Int.reduceToNat, Int.reduceAdd, Int.reduceSub, Int.reduceMul, Int.reduceNeg, reduceCtorEq, Option.bind_some, Option.map_some, List.length_cons, List.length_nil, vcM, List.getElem?_toArray, List.getElem?_cons_zero, List.getElem?_cons_succ, Ret_returned])
    have hgn := hN.new g rfl
    exact ⟨o2, hN.ext.trans kk2 fun i hi e => by omega, hN.new⟩
  refine callV_ret rev ?_
  rintro _ w2 hN2
  first | (simp (disch := first | omega | assumption | rfl | (simp only [vcS] <;> omega) | fail) only [↓ptV_l, ↓vcA, vcB, ↓vcD, vcE, ↓reduceIte, Nat.reduceEqDiff, Nat.reduceAdd, Nat.reduceMul, Nat.reduceLeDiff, Int.reduceLE, Int.reduceLT, Int.reduceEq, Int.reduceToNat, Int.reduceAdd, Int.reduceSub, Int.reduceMul, Int.reduceNeg, reduceCtorEq, Option.bind_some, Option.map_some, List.length_cons, List.length_nil, vcM, List.getElem?_toArray, List.getElem?_cons_zero, List.getElem?_cons_succ]) | skip
  (refine W_at c44_ok ?_; refine ⟨_, rfl, ?_⟩; simp (disch := first | omega | assumption | rfl | (simp only [vcS] <;> omega) | fail) only [↓ptV_l, ↓vcA, vcB, ↓vcD, vcE, ↓reduceIte, Nat.reduceEqDiff, Nat.reduceAdd, Nat.reduceMul, Nat.reduceLeDiff, Int.reduceLE, Int.reduceLT, Int.reduceEq, Int.reduceToNat, Int.reduceAdd, Int.reduceSub, Int.reduceMul, Int.reduceNeg, reduceCtorEq, Option.bind_some, Option.map_some, List.length_cons, List.length_nil, vcM, List.getElem?_toArray, List.getElem?_cons_zero, List.getElem?_cons_succ])
  (refine W_at c44_ok ?_; refine ⟨_, rfl, ?_⟩; simp (disch := first | omega | assumption | rfl | (simp only [vcS] <;> omega) | fail) only [↓ptV_l, ↓vcA, vcB, ↓vcD, vcE, ↓reduceIte, Nat.reduceEqDiff, Nat.reduceAdd, Nat.reduceMul, Nat.reduceLeDiff, Int.reduceLE, Int.reduceLT, Int.reduceEq, Int.reduceToNat, Int.reduceAdd, Int.reduceSub, Int.reduceMul, Int.reduceNeg, reduceCtorEq, Option.bind_some, Option.map_some, List.length_cons, List.length_nil, vcM, List.getElem?_toArray, List.getElem?_cons_zero, List.getElem?_cons_succ, Ret_returned])
  exact hN2
end Go.Proofs
namespace Go.Proofs
open Go.Vc Go.RowKit
set_option maxRecDepth 10000

theorem keepsFrom_of {S : Nat → Prop} {B : Nat} {w w' : World} (h : Keep S w w') (hS : ∀ k, S k → ∀ o, w.heap[k]? = some o → o.isCells = true) : KeepsFrom B w w' := by
  refine ⟨h.size, fun k o _ hk ho => ?_⟩
  have hs : ¬ S k := fun hs => by rw [hS k hs o hk] at ho; cases ho
  exact (h.block k (Array.getElem?_eq_some_iff.1 hk).1 hs).trans hk
theorem at_own {B : Nat} {w w' : World} {row : Option Nat} {p : Nat} {c : Array Value} {t : TypeId} {fr : Nat × Nat} (hg : w.grownBy w' row) (hr : ∀ r, row = some r → B ≤ r ∧ ∃ o : Obj, w.heap[r]? = some o ∧ o.isCells = false)
    (h : w.heap[p]? = some (.cells c t fr)) : w'.heap[p]? = some (.cells c t fr) :=
  (keep_grow hg hr).at h fun hn => by obtain ⟨_, o, ho, hc⟩ := hn; rw [h] at ho; cases ho; cases hc
/-- What one digit more makes of the digits so far: the old places, and what is carried on. -/
def carryF : List Int → Int → List Int × Int
  | [], c => ([], c)
  | x :: o, c => ((c + x * 256) % 58 :: (carryF o ((c + x * 256) / 58)).1, (carryF o ((c + x * 256) / 58)).2)
def digF : Nat → Int → List Int
  | 0, _ => []
  | k + 1, c => if 0 < c then c % 58 :: digF k (c / 58) else []
def mulF (o : List Int) (d : Int) : List Int := (carryF o d).1 ++ digF 256 (carryF o d).2
def D58 (o : List Int) : Prop := ∀ x ∈ o, 0 ≤ x ∧ x ≤ 57
theorem carryF_ok : ∀ {o : List Int} {c : Int}, D58 o → 0 ≤ c ∧ c ≤ 255 → D58 (carryF o c).1 ∧ (0 ≤ (carryF o c).2 ∧ (carryF o c).2 ≤ 255) ∧ (carryF o c).1.length = o.length
  | [], c, _, hc => ⟨fun x h => (by cases h), hc, rfl⟩
  | x :: o, c, ho, hc => by
    have hx := ho x (by simp)
    have ih := carryF_ok (o := o) (c := (c + x * 256) / 58) (fun y hy => ho y (List.mem_cons_of_mem _ hy)) (by omega)
    refine ⟨fun y hy => ?_, ih.2.1, by simp [carryF, ih.2.2]⟩
    rcases List.mem_cons.1 hy with rfl | hy
    · omega
    · exact ih.1 y hy
theorem digF_ok : ∀ (k : Nat) {c : Int}, 0 ≤ c → D58 (digF k c)
  | 0, _, _ => fun x h => (by cases h)
  | k + 1, c, hc => by
    intro x hx
    simp only [digF] at hx
    split at hx
    · rcases List.mem_cons.1 hx with rfl | hx
      · omega
      · exact digF_ok k (c := c / 58) (by omega) x hx
    · cases hx
theorem digF_len : ∀ (k : Nat) {c : Int}, 0 ≤ c ∧ c ≤ 255 → (digF k c).length ≤ 2
  | 0, _, _ => by simp [digF]
  | 1, _, _ => by simp only [digF]; split <;> simp
  | k + 2, c, hc => by
    simp only [digF]
    split
    · split
      · cases k with
        | zero => simp [digF]
        | succ k =>
          simp only [digF]
          rw [if_neg (by omega)]
          simp
      · simp
    · simp
theorem mulF_ok {o : List Int} {d : Int} (ho : D58 o) (hd : 0 ≤ d ∧ d ≤ 255) : D58 (mulF o d) ∧ (mulF o d).length ≤ o.length + 2 := by
  obtain ⟨h1, h2, h3⟩ := carryF_ok ho hd
  refine ⟨fun x hx => ?_, ?_⟩
  · rcases List.mem_append.1 hx with hx | hx
    · exact h1 x hx
    · exact digF_ok 256 h2.1 x hx
  · have := digF_len 256 h2
    simp only [mulF, List.length_append]; omega
def baseF (ds : List Int) : List Int := ds.foldl mulF []
theorem baseF_ok : ∀ (ds : List Int) {o : List Int}, D58 o → byt ds → D58 (ds.foldl mulF o) ∧ (ds.foldl mulF o).length ≤ o.length + 2 * ds.length
  | [], o, ho, _ => ⟨ho, by simp⟩
  | d :: ds, o, ho, hb => by
    obtain ⟨h1, h2⟩ := mulF_ok ho (hb d (by simp))
    obtain ⟨h3, h4⟩ := baseF_ok ds h1 fun x hx => hb x (List.mem_cons_of_mem _ hx)
    exact ⟨h3, by simp only [List.foldl_cons, List.length_cons]; omega⟩
/-- What the box of the digits holds. -/
structure OutAt (w0 w : World) (p4 p5 p7 : Nat) (o : List Int) : Prop where
  ext : Ext w0 w
  b4 : w.heap[p4]? = some (.cells #[.int .i64 256] 3 (0, 0))
  b5 : w.heap[p5]? = some (.cells #[.int .i64 58] 3 (0, 0))
  l7 : w0.heap.size ≤ p7
  b7 : ∃ v, w.heap[p7]? = some (.cells #[v] 22 (0, 0)) ∧ Own1 w v o ∧ ∀ g, blk v g → w0.heap.size ≤ g
set_option maxHeartbeats 3200000 in
theorem base_ok (w : World) (v : Value) (ids : List Int) (h : Own1 w v ids) (hb : byt ids) (hl : ids.length ≤ 1000) :
    Calls Tryd.prog 43 #[v, .int .i64 256, .int .i64 58] w (Ret fun u w' => New w w' u (baseF ids.reverse)) := by
  refine calls_of_ct 3 t43_ok (Nat.le_of_ble_eq_true rfl) ?_
  simp only [argE_nil, argE_cons, Nat.reduceAdd, Nat.zero_add]
  simp (disch := first | omega | assumption | rfl | (simp only [vcS] <;> omega) | fail) only [t43, ↓vcC, slc3_s, ↓ptV_l, ↓vcA, vcB, ↓vcD, vcE, ↓reduceIte, Nat.reduceEqDiff, Nat.reduceAdd, Nat.reduceMul, Nat.reduceLeDiff, Int.reduceLE, Int.reduceLT, Int.reduceEq, Int.reduceToNat, Int.reduceAdd, Int.reduceSub, Int.reduceMul, Int.reduceNeg, reduceCtorEq, Option.bind_some, Option.map_some, List.length_cons, List.length_nil, vcM, List.getElem?_toArray, List.getElem?_cons_zero, List.getElem?_cons_succ]
  have hq4 : ((w.alloc (.cells #[.int .i64 256] 3)).alloc (.cells #[.int .i64 58] 3)).heap[w.heap.size]? = some (.cells #[.int .i64 256] 3 (0, 0)) := by
    rw [heap_old _ _ _ (by rw [size_alloc]; omega)]; exact heap_new _ _ _ rfl
  have hq5 : ((w.alloc (.cells #[.int .i64 256] 3)).alloc (.cells #[.int .i64 58] 3)).heap[w.heap.size + 1]? = some (.cells #[.int .i64 58] 3 (0, 0)) := heap_new _ _ _ (by rw [size_alloc])
  have hE1 : Ext w ((w.alloc (.cells #[.int .i64 256] 3)).alloc (.cells #[.int .i64 58] 3)) := by (repeat' first | exact Keep.refl _ _ | assumption | refine Keep.drew ?_ | refine Keep.alloc ?_ _ | refine Keep.putN ?_ _ ?_ | refine Keep.setCell ?_ _ ?_ | refine Keep.setO ?_ _ ?_ | exact fun _ => Or.inl rfl | exact fun _ => Or.inr rfl | exact fun _ => rfl | (intro hh; exfalso; ((try simp only [vcS] at hh) <;> omega)))
  generalize hp4e : w.heap.size = p4 at hq4 hq5 ⊢
  generalize hp5e : p4 + 1 = p5 at hq5 ⊢
  generalize World.alloc (World.alloc _ _) _ = w1 at hq4 hq5 hE1 ⊢
  (refine nx_at ?_; simp (disch := first | omega | assumption | rfl | (simp only [vcS] <;> omega) | fail) only [↓vcC, slc3_s, ↓ptV_l, ↓vcA, vcB, ↓vcD, vcE, ↓reduceIte, Nat.reduceEqDiff, Nat.reduceAdd, Nat.reduceMul, Nat.reduceLeDiff, Int.reduceLE, Int.reduceLT, Int.reduceEq, Int.reduceToNat, Int.reduceAdd, Int.reduceSub, Int.reduceMul, Int.reduceNeg, reduceCtorEq, Option.bind_some, Option.map_some, List.length_cons, List.length_nil, vcM, List.getElem?_toArray, List.getElem?_cons_zero, List.getElem?_cons_succ])
  have hz : zc [(1, Value.slice none 0 0)] = #[.slice none 0 0] := rfl
  rw [hz]
  have hO : OutAt w (w1.alloc (.cells #[.slice none 0 0] 22)) p4 p5 w1.heap.size [] := by
    have hE2 : Ext w1 (w1.alloc (.cells #[.slice none 0 0] 22)) := (Keep.refl _ w1).alloc _
    exact ⟨hE1.ext hE2, hE2.at hq4 fun h => h, hE2.at hq5 fun h => h, hE1.size, _, heap_new _ _ _ rfl, Own1.nil _, fun g hg => (by cases hg)⟩
  have hp7l : w1.heap.size < (w1.alloc (.cells #[.slice none 0 0] 22)).heap.size := by rw [size_alloc]; omega
  generalize w1.heap.size = p7 at hO hp7l ⊢
  generalize World.alloc _ _ = w2 at hO hp7l ⊢
  clear hz hq4 hq5 hE1
  (refine nx_at ?_; simp (disch := first | omega | assumption | rfl | (simp only [vcS] <;> omega) | fail) only [↓vcC, slc3_s, ↓ptV_l, ↓vcA, vcB, ↓vcD, vcE, ↓reduceIte, Nat.reduceEqDiff, Nat.reduceAdd, Nat.reduceMul, Nat.reduceLeDiff, Int.reduceLE, Int.reduceLT, Int.reduceEq, Int.reduceToNat, Int.reduceAdd, Int.reduceSub, Int.reduceMul, Int.reduceNeg, reduceCtorEq, Option.bind_some, Option.map_some, List.length_cons, List.length_nil, vcM, List.getElem?_toArray, List.getElem?_cons_zero, List.getElem?_cons_succ])
  obtain ⟨qv, hqv⟩ : ∃ qq qn qc, v = .slice qq qn qc := by
    rcases h.2 with ⟨rfl, _⟩ | ⟨g, cap, cur, rfl, _⟩
    · exact ⟨_, _, _, rfl⟩
    · exact ⟨_, _, _, rfl⟩
  obtain ⟨qn, qc, hqe⟩ := hqv
  have hcell : v.cells = #[v] := by rw [hqe]; rfl
  refine callV_ret (back_ok w2 v hcell) ?_
  rintro _ w3 ⟨b1, T1, rfl, hm1, hE3, hl1, hl3, hT1⟩
  first | (simp (disch := first | omega | assumption | rfl | (simp only [vcS] <;> omega) | fail) only [↓vcC, slc3_s, ↓ptV_l, ↓vcA, vcB, ↓vcD, vcE, ↓reduceIte, Nat.reduceEqDiff, Nat.reduceAdd, Nat.reduceMul, Nat.reduceLeDiff, Int.reduceLE, Int.reduceLT, Int.reduceEq, Int.reduceToNat, Int.reduceAdd, Int.reduceSub, Int.reduceMul, Int.reduceNeg, reduceCtorEq, Option.bind_some, Option.map_some, List.length_cons, List.length_nil, vcM, List.getElem?_toArray, List.getElem?_cons_zero, List.getElem?_cons_succ]) | skip
  (refine nx_at ?_; simp (disch := first | omega | assumption | rfl | (simp only [vcS] <;> omega) | fail) only [↓vcC, slc3_s, ↓ptV_l, ↓vcA, vcB, ↓vcD, vcE, ↓reduceIte, Nat.reduceEqDiff, Nat.reduceAdd, Nat.reduceMul, Nat.reduceLeDiff, Int.reduceLE, Int.reduceLT, Int.reduceEq, Int.reduceToNat, Int.reduceAdd, Int.reduceSub, Int.reduceMul, Int.reduceNeg, reduceCtorEq, Option.bind_some, Option.map_some, List.length_cons, List.length_nil, vcM, List.getElem?_toArray, List.getElem?_cons_zero, List.getElem?_cons_succ])
  have hO3 : OutAt w w3 p4 p5 p7 [] := by
    obtain ⟨o1, o2, o3, o4, v7, o5, o6, o7⟩ := hO
    exact ⟨o1.ext hE3, hE3.at o2 fun h => h, hE3.at o3 fun h => h, o4, v7, hE3.at o5 fun h => h, o6.ext hE3, o7⟩
  have hst := back_stops w3 b1 v ids T1 hm1 (h.ext hO3.ext) (by omega)
  have hbs : ∀ b ∈ b1 :: v.ownBlock.toList, b < w3.heap.size := by
    intro b hb
    rcases List.mem_cons.1 hb with rfl | hb
    · exact hl1
    · have hbq : blk v b := by
        unfold Go.Proofs.blk
        cases ho : v.ownBlock with
        | none => rw [ho] at hb; cases hb
        | some g => rw [ho] at hb; simp at hb; rw [hb]
      exact Nat.lt_of_lt_of_le (h.lt hbq) hO3.ext.size
  have hvals : ∀ (pre : List (Fin ids.length)), byt (pre.map fun t => ids[t.val]) := fun pre x hx => by
    obtain ⟨t, _, rfl⟩ := List.mem_map.1 hx
    exact hb _ (List.getElem_mem _)
  refine rg_of (b1 :: v.ownBlock.toList) (by decide) _ _ _ _ _ _
    (fun (pre : List (Fin ids.length)) W => OutAt w W p4 p5 p7 (baseF (pre.map fun t => ids[t.val])) ∧ W.heap[b1]? = some (.cells #[v] T1 (0, 0)) ∧ w3.heap.size ≤ W.heap.size)
    (fun _ _ _ => False)
    (fun t e1 W => Vc.look e1 4 = some (.pointer (some ⟨p4, 0, none⟩)) ∧ Vc.look e1 5 = some (.pointer (some ⟨p5, 0, none⟩)) ∧ Vc.look e1 7 = some (.pointer (some ⟨p7, 0, none⟩)) ∧ Vc.look e1 9 = some (.int .u8 ids[t.val]))
    rfl rfl hbs hst (fun _ => rfl) ?_ ?_ ⟨hO3, hm1, Nat.le_refl _⟩ ?_ ?_ ?_ ?_ ?_
  · rintro pre W W' row ⟨⟨o1, o2, o3, o4, v7, o5, o6, o7⟩, m1, gs⟩ hg hr
    refine ⟨⟨o1.trans (keep_grow hg hr) fun i hi hk => by have := hk.1; have := hO3.ext.size; omega, at_own hg hr o2, at_own hg hr o3, o4, v7, at_own hg hr o5, ?_, o7⟩, at_own hg hr m1, Nat.le_trans gs hg.size⟩
    refine o6.keep (keep_grow hg hr) fun g hgb hk => ?_
    obtain ⟨_, o, ho, hc⟩ := hk
    obtain ⟨cur, hcur⟩ := row_type o6 hgb
    rw [hcur] at ho; cases ho; cases hc
  · rintro key pre W W' row hF hg hr; exact hF
  · rintro t e1 _ W W' row hA hg hr; exact hA
  · rintro l pre t W hI
    show ctV _ _ _ _ _ _ _ _ ((16, .int .u8 _) :: (15, .int .i64 _) :: _) _
    simp (disch := first | omega | assumption | rfl | (simp only [vcS] <;> omega) | fail) only [↓vcC, slc3_s, ↓ptV_l, ↓vcA, vcB, ↓vcD, vcE, ↓reduceIte, Nat.reduceEqDiff, Nat.reduceAdd, Nat.reduceMul, Nat.reduceLeDiff, Int.reduceLE, Int.reduceLT, Int.reduceEq, Int.reduceToNat, Int.reduceAdd, Int.reduceSub, Int.reduceMul, Int.reduceNeg, reduceCtorEq, Option.bind_some, Option.map_some, List.length_cons, List.length_nil, vcM, List.getElem?_toArray, List.getElem?_cons_zero, List.getElem?_cons_succ]
    exact ⟨KeepsFrom.refl _ _, fun _ _ => rfl, hI⟩
  · rintro l pre t e1 W hl hr ⟨⟨o1, o2, o3, o4, v7, o5, o6, o7⟩, m1, gs⟩ ⟨l4, l5, l7, l9⟩ hlt
    have hd := hb ids[t.val] (List.getElem_mem _)
    have hB0 := baseF_ok (pre.map fun (t : Fin ids.length) => ids[t.val]) (o := []) (fun x hx => (by cases hx)) (hvals pre)
    obtain ⟨hD0, hL0⟩ := hB0
    have hLen : (baseF (pre.map fun t => ids[t.val])).length ≤ 4000 := by
      have : (baseF (pre.map fun t => ids[t.val])).length ≤ [].length + 2 * (pre.map fun t => ids[t.val]).length := hL0
      simp at this
      omega
    have hD0 : D58 (baseF (pre.map fun t => ids[t.val])) := hD0
    have hnext : baseF ((pre ++ [t]).map fun t => ids[t.val]) = mulF (baseF (pre.map fun t => ids[t.val])) ids[t.val] := by simp [baseF]
    rw [hnext]
    clear hnext hL0
    generalize baseF (pre.map fun t => ids[t.val]) = o0 at *
    generalize ids[t.val] = d at *
    have hwd : IntKind.i64.wrap d = d := wrap_i64 (by omega) (by omega)
    have hlen7 := o6.rd.len
    have one7 : v7.oneCell' = true := o6.rd.one
    have n4 : ¬ WS p7 v7 p4 := by
      rintro (e | e)
      · subst e; rw [o2] at o5; cases o5
      · obtain ⟨cur, hc⟩ := row_type o6 e; rw [o2] at hc; cases hc
    have n5 : ¬ WS p7 v7 p5 := by
      rintro (e | e)
      · subst e; rw [o3] at o5; cases o5
      · obtain ⟨cur, hc⟩ := row_type o6 e; rw [o3] at hc; cases hc
    have n1 : ¬ WS p7 v7 b1 := by
      rintro (e | e)
      · omega
      · obtain ⟨cur, hc⟩ := row_type o6 e; rw [m1] at hc; rw [hT1] at hc; cases hc
    have n7 : ¬ blk v7 p7 := fun e => by obtain ⟨cur, hc⟩ := row_type o6 e; rw [o5] at hc; cases hc
    have nv : ∀ g, blk v g → ¬ WS p7 v7 g := fun g hg => by
      have := h.lt hg
      rintro (e | e)
      · omega
      · have := o7 g e; omega
    have hcells : ∀ k, WS p7 v7 k → ∀ o, W.heap[k]? = some o → o.isCells = true := by
      rintro k (e | e) o ho
      · subst e; rw [o5] at ho; cases ho; rfl
      · obtain ⟨cur, hc⟩ := row_type o6 e; rw [hc] at ho; cases ho; rfl
    have fin : ∀ (W' : World) (v' : Value) (o' : List Int), Keep (WS p7 v7) W W' → W'.heap[p7]? = some (.cells #[v'] 22 (0, 0)) → Own1 W' v' o' → (∀ g, blk v' g → blk v7 g ∨ W.heap.size ≤ g) →
        KeepsFrom w3.heap.size W W' ∧ KpB (b1 :: v.ownBlock.toList) W W' ∧ (OutAt w W' p4 p5 p7 o' ∧ W'.heap[b1]? = some (.cells #[v] T1 (0, 0)) ∧ w3.heap.size ≤ W'.heap.size) := by
      intro W' v' o' k1 k2 k3 k4
      refine ⟨keepsFrom_of k1 hcells, fun b hbm => ?_, ⟨o1.trans k1 fun i hi e => ?_, k1.at o2 n4, k1.at o3 n5, o4, v', k2, k3, fun g hg => ?_⟩, k1.at m1 n1, Nat.le_trans gs k1.size⟩
      · refine k1.block b (Nat.lt_of_lt_of_le (hbs b hbm) gs) ?_
        rcases List.mem_cons.1 hbm with rfl | hbm
        · exact n1
        · refine nv b ?_
          unfold Go.Proofs.blk
          cases ho : v.ownBlock with
          | none => rw [ho] at hbm; cases hbm
          | some g => rw [ho] at hbm; simp at hbm; rw [hbm]
      · rcases e with e | e
        · omega
        · have := o7 i e; omega
      · rcases k4 g hg with e | e
        · exact o7 g e
        · exact Nat.le_trans o1.size e
    simp (disch := first | omega | assumption | rfl | (simp only [vcS] <;> omega) | fail) only [↓vcC, slc3_s, ↓ptV_l, ↓vcA, vcB, ↓vcD, vcE, ↓reduceIte, Nat.reduceEqDiff, Nat.reduceAdd, Nat.reduceMul, Nat.reduceLeDiff, Int.reduceLE, Int.reduceLT, Int.reduceEq, Int.reduceToNat, Int.reduceAdd, Int.reduceSub, Int.reduceMul, Int.reduceNeg, reduceCtorEq, Option.bind_some, Option.map_some, List.length_cons, List.length_nil, vcM, List.getElem?_toArray, List.getElem?_cons_zero, List.getElem?_cons_succ, l9, hwd]
    (refine nx_at ?_; simp (disch := first | omega | assumption | rfl | (simp only [vcS] <;> omega) | fail) only [↓vcC, slc3_s, ↓ptV_l, ↓vcA, vcB, ↓vcD, vcE, ↓reduceIte, Nat.reduceEqDiff, Nat.reduceAdd, Nat.reduceMul, Nat.reduceLeDiff, Int.reduceLE, Int.reduceLT, Int.reduceEq, Int.reduceToNat, Int.reduceAdd, Int.reduceSub, Int.reduceMul, Int.reduceNeg, reduceCtorEq, Option.bind_some, Option.map_some, List.length_cons, List.length_nil, vcM, List.getElem?_toArray, List.getElem?_cons_zero, List.getElem?_cons_succ, l7, o5, hlen7])
    (refine nx_at ?_; simp (disch := first | omega | assumption | rfl | (simp only [vcS] <;> omega) | fail) only [↓vcC, slc3_s, ↓ptV_l, ↓vcA, vcB, ↓vcD, vcE, ↓reduceIte, Nat.reduceEqDiff, Nat.reduceAdd, Nat.reduceMul, Nat.reduceLeDiff, Int.reduceLE, Int.reduceLT, Int.reduceEq, Int.reduceToNat, Int.reduceAdd, Int.reduceSub, Int.reduceMul, Int.reduceNeg, reduceCtorEq, Option.bind_some, Option.map_some, List.length_cons, List.length_nil, vcM, List.getElem?_toArray, List.getElem?_cons_zero, List.getElem?_cons_succ])
    refine lp_of (fun j ds e W' => ds = [] ∧ ∃ done rest c, done.length + j = o0.length ∧ rest.length = j ∧ Vc.look e 21 = some (.int .i64 (done.length : Nat)) ∧ Vc.look e 20 = some (.int .i64 (o0.length : Nat)) ∧ Vc.look e 19 = some v7 ∧ Vc.look e 10 = some (.int .i64 c) ∧
      Vc.look e 4 = some (.pointer (some ⟨p4, 0, none⟩)) ∧ Vc.look e 5 = some (.pointer (some ⟨p5, 0, none⟩)) ∧ Vc.look e 7 = some (.pointer (some ⟨p7, 0, none⟩)) ∧ (0 ≤ c ∧ c ≤ 255) ∧ D58 rest ∧ carryF o0 d = (done ++ (carryF rest c).1, (carryF rest c).2) ∧
      Keep (WS p7 v7) W W' ∧ W'.heap[p7]? = some (.cells #[v7] 22 (0, 0)) ∧ Own1 W' v7 (done ++ rest)) o0.length ?_ ?_
    · exact ⟨rfl, [], o0, d, by simp, rfl, rfl, rfl, rfl, rfl, l4, l5, l7, hd, hD0, by simp, Keep.refl _ W, o5, o6⟩
    rintro j ds e W1 ⟨rfl, done, rest, c, hj, hrl, l21, l20, l19, l10, l4, l5, l7, hc, hrd, hcar, k1, k2, k3⟩
    by_cases hjl : done.length < o0.length
    · have hjl' : ((done.length : Nat) : Int) < ((o0.length : Nat) : Int) := by omega
      obtain ⟨x, rest2, rfl⟩ : ∃ x r, rest = x :: r := by
        cases rest with
        | nil => simp at hrl; omega
        | cons x r => exact ⟨x, r, rfl⟩
      have hx := hrd x (by simp)
      have hel : (done ++ x :: rest2).length = o0.length := by simp at hrl ⊢; omega
      obtain ⟨b, o, cap, hv7, hcl⟩ := k3.rd.at (i := done.length) (by simp)
      rw [hel] at hv7
      have hx0 : (done ++ x :: rest2)[done.length]'(by simp) = x := by simp
      rw [hx0] at hcl
      have h20 : 0 ≤ ((done.length : Nat) : Int) ∧ ((done.length : Nat) : Int) < ((o0.length : Nat) : Int) := by omega
      have w1' : IntKind.i64.wrap x = x := wrap_i64 (by omega) (by omega)
      have w2' : IntKind.i64.wrap (x * 256) = x * 256 := wrap_i64 (by omega) (by omega)
      have w3' : IntKind.i64.wrap (c + x * 256) = c + x * 256 := wrap_i64 (by omega) (by omega)
      have w4' : Int.tmod (c + x * 256) 58 = (c + x * 256) % 58 := Int.tmod_eq_emod_of_nonneg (by omega)
      have w5' : IntKind.u8.wrap ((c + x * 256) % 58) = (c + x * 256) % 58 := by rw [wrap_u8]; omega
      have w6' : IntKind.i64.wrap (Int.tdiv (c + x * 256) 58) = (c + x * 256) / 58 := by rw [Int.tdiv_eq_ediv_of_nonneg (by omega)]; exact wrap_i64 (by omega) (by omega)
      have w7' : IntKind.i64.wrap ((done.length : Nat) + 1) = ((done.length + 1 : Nat) : Int) := wrap_i64 (by omega) (by omega)
      have k4 := k1.at o2 n4
      have k5 := k1.at o3 n5
      subst hv7
      have ho0 : o = 0 := by
        rcases k3.2 with ⟨e1, _⟩ | ⟨g', cap', cur', e1, _⟩
        · cases e1
        · injection e1 with e2 _ _
          injection e2 with e3
          injection e3
      subst ho0
      rw [Nat.zero_add] at hcl
      simp (disch := first | omega | assumption | rfl | (simp only [vcS] <;> omega) | fail) only [↓vcC, slc3_s, ↓ptV_l, ↓vcA, vcB, ↓vcD, vcE, ↓reduceIte, Nat.reduceEqDiff, Nat.reduceAdd, Nat.reduceMul, Nat.reduceLeDiff, Int.reduceLE, Int.reduceLT, Int.reduceEq, Int.reduceToNat, Int.reduceAdd, Int.reduceSub, Int.reduceMul, Int.reduceNeg, reduceCtorEq, Option.bind_some, Option.map_some, List.length_cons, List.length_nil, vcM, List.getElem?_toArray, List.getElem?_cons_zero, List.getElem?_cons_succ, l21, l20, hjl']
      (refine nx_at ?_; simp (disch := first | omega | assumption | rfl | (simp only [vcS] <;> omega) | fail) only [↓vcC, slc3_s, ↓ptV_l, ↓vcA, vcB, ↓vcD, vcE, ↓reduceIte, Nat.reduceEqDiff, Nat.reduceAdd, Nat.reduceMul, Nat.reduceLeDiff, Int.reduceLE, Int.reduceLT, Int.reduceEq, Int.reduceToNat, Int.reduceAdd, Int.reduceSub, Int.reduceMul, Int.reduceNeg, reduceCtorEq, Option.bind_some, Option.map_some, List.length_cons, List.length_nil, vcM, List.getElem?_toArray, List.getElem?_cons_zero, List.getElem?_cons_succ])
      (refine nx_at ?_; simp (disch := first | omega | assumption | rfl | (simp only [vcS] <;> omega) | fail) only [↓vcC, slc3_s, ↓ptV_l, ↓vcA, vcB, ↓vcD, vcE, ↓reduceIte, Nat.reduceEqDiff, Nat.reduceAdd, Nat.reduceMul, Nat.reduceLeDiff, Int.reduceLE, Int.reduceLT, Int.reduceEq, Int.reduceToNat, Int.reduceAdd, Int.reduceSub, Int.reduceMul, Int.reduceNeg, reduceCtorEq, Option.bind_some, Option.map_some, List.length_cons, List.length_nil, vcM, List.getElem?_toArray, List.getElem?_cons_zero, List.getElem?_cons_succ, l21, l19, h20, Int.toNat_natCast, Nat.mul_one, hcl])
      (refine nx_at ?_; simp (disch := first | omega | assumption | rfl | (simp only [vcS] <;> omega) | fail) only [↓vcC, slc3_s, ↓ptV_l, ↓vcA, vcB, ↓vcD, vcE, ↓reduceIte, Nat.reduceEqDiff, Nat.reduceAdd, Nat.reduceMul, Nat.reduceLeDiff, Int.reduceLE, Int.reduceLT, Int.reduceEq, Int.reduceToNat, Int.reduceAdd, Int.reduceSub, Int.reduceMul, Int.reduceNeg, reduceCtorEq, Option.bind_some, Option.map_some, List.length_cons, List.length_nil, vcM, List.getElem?_toArray, List.getElem?_cons_zero, List.getElem?_cons_succ, l10, l4, k4, w1', w2', w3'])
      (refine nx_at ?_; simp (disch := first | omega | assumption | rfl | (simp only [vcS] <;> omega) | fail) only [↓vcC, slc3_s, ↓ptV_l, ↓vcA, vcB, ↓vcD, vcE, ↓reduceIte, Nat.reduceEqDiff, Nat.reduceAdd, Nat.reduceMul, Nat.reduceLeDiff, Int.reduceLE, Int.reduceLT, Int.reduceEq, Int.reduceToNat, Int.reduceAdd, Int.reduceSub, Int.reduceMul, Int.reduceNeg, reduceCtorEq, Option.bind_some, Option.map_some, List.length_cons, List.length_nil, vcM, List.getElem?_toArray, List.getElem?_cons_zero, List.getElem?_cons_succ, l7, l5, k2, k5, w4', w5', h20, Int.toNat_natCast, Nat.mul_one])
      obtain ⟨r1, o1'⟩ := (k3.ext ((Keep.refl _ W1).drew)).set1 (i := done.length) (by simp) ((c + x * 256) % 58)
      have k7 : Keep (WS p7 (.slice (some ⟨b, 0, none⟩) o0.length cap)) W1 (W1.drew.setCell ⟨b, done.length, none⟩ (.int .u8 ((c + x * 256) % 58))) := ((Keep.refl _ W1).drew).setCell _ fun _ => .inr rfl
      have k8 : (W1.drew.setCell ⟨b, done.length, none⟩ (.int .u8 ((c + x * 256) % 58))).heap[p7]? = some (.cells #[.slice (some ⟨b, 0, none⟩) o0.length cap] 22 (0, 0)) := by
        exact (show Keep (fun i => i = b) W1 (W1.drew.setCell ⟨b, done.length, none⟩ (.int .u8 ((c + x * 256) % 58))) from ((Keep.refl _ W1).drew).setCell _ fun _ => rfl).at k2 (fun e => n7 (by rw [e]; rfl))
      first | (refine ⟨r1, ?_⟩) | skip
      rw [set_mid] at o1'
      have k9 := k1.trans k7 fun i _ h => h
      have k5' := k9.at o3 n5
      generalize World.setCell _ _ _ = W2 at o1' k7 k8 k9 k5' ⊢
      (refine nx_at ?_; simp (disch := first | omega | assumption | rfl | (simp only [vcS] <;> omega) | fail) only [↓vcC, slc3_s, ↓ptV_l, ↓vcA, vcB, ↓vcD, vcE, ↓reduceIte, Nat.reduceEqDiff, Nat.reduceAdd, Nat.reduceMul, Nat.reduceLeDiff, Int.reduceLE, Int.reduceLT, Int.reduceEq, Int.reduceToNat, Int.reduceAdd, Int.reduceSub, Int.reduceMul, Int.reduceNeg, reduceCtorEq, Option.bind_some, Option.map_some, List.length_cons, List.length_nil, vcM, List.getElem?_toArray, List.getElem?_cons_zero, List.getElem?_cons_succ, l10, l5, k5', w6'])
      (refine nx_at ?_; simp (disch := first | omega | assumption | rfl | (simp only [vcS] <;> omega) | fail) only [↓vcC, slc3_s, ↓ptV_l, ↓vcA, vcB, ↓vcD, vcE, ↓reduceIte, Nat.reduceEqDiff, Nat.reduceAdd, Nat.reduceMul, Nat.reduceLeDiff, Int.reduceLE, Int.reduceLT, Int.reduceEq, Int.reduceToNat, Int.reduceAdd, Int.reduceSub, Int.reduceMul, Int.reduceNeg, reduceCtorEq, Option.bind_some, Option.map_some, List.length_cons, List.length_nil, vcM, List.getElem?_toArray, List.getElem?_cons_zero, List.getElem?_cons_succ, l21, w7'])
      rw [carryF] at hcar
      refine ⟨j - 1, by omega, done ++ [(c + x * 256) % 58], rest2, (c + x * 256) / 58, by simp; omega, by simp at hrl; omega, by simp, l20, l19, rfl, l4, l5, l7, by omega, fun y hy => hrd y (List.mem_cons_of_mem _ hy), by rw [hcar]; simp, k9, k8, by simpa using o1'⟩
    · have hr0 : rest = [] := List.eq_nil_of_length_eq_zero (by omega)
      subst hr0
      have hjl' : ¬ ((done.length : Nat) : Int) < ((o0.length : Nat) : Int) := by omega
      rw [List.append_nil] at k3
      have hm : done ++ digF 256 c = mulF o0 d := by rw [mulF, hcar]; simp [carryF]
      simp (disch := first | omega | assumption | rfl | (simp only [vcS] <;> omega) | fail) only [↓vcC, slc3_s, ↓ptV_l, ↓vcA, vcB, ↓vcD, vcE, ↓reduceIte, Nat.reduceEqDiff, Nat.reduceAdd, Nat.reduceMul, Nat.reduceLeDiff, Int.reduceLE, Int.reduceLT, Int.reduceEq, Int.reduceToNat, Int.reduceAdd, Int.reduceSub, Int.reduceMul, Int.reduceNeg, reduceCtorEq, Option.bind_some, Option.map_some, List.length_cons, List.length_nil, vcM, List.getElem?_toArray, List.getElem?_cons_zero, List.getElem?_cons_succ, l21, l20, hjl']
      (refine nx_at ?_; simp (disch := first | omega | assumption | rfl | (simp only [vcS] <;> omega) | fail) only [↓vcC, slc3_s, ↓ptV_l, ↓vcA, vcB, ↓vcD, vcE, ↓reduceIte, Nat.reduceEqDiff, Nat.reduceAdd, Nat.reduceMul, Nat.reduceLeDiff, Int.reduceLE, Int.reduceLT, Int.reduceEq, Int.reduceToNat, Int.reduceAdd, Int.reduceSub, Int.reduceMul, Int.reduceNeg, reduceCtorEq, Option.bind_some, Option.map_some, List.length_cons, List.length_nil, vcM, List.getElem?_toArray, List.getElem?_cons_zero, List.getElem?_cons_succ])
      refine lp_of (K := fun _ _ _ => False) (fun j ds e W' => ds = [] ∧ ∃ acc c v', c.toNat ≤ j ∧ acc ++ digF j c = mulF o0 d ∧ (0 ≤ c ∧ c ≤ 255) ∧ acc.length ≤ 10000 + (256 - j) ∧ j ≤ 256 ∧ Vc.look e 10 = some (.int .i64 c) ∧
        Vc.look e 4 = some (.pointer (some ⟨p4, 0, none⟩)) ∧ Vc.look e 5 = some (.pointer (some ⟨p5, 0, none⟩)) ∧ Vc.look e 7 = some (.pointer (some ⟨p7, 0, none⟩)) ∧
        Keep (WS p7 v7) W W' ∧ W'.heap[p7]? = some (.cells #[v'] 22 (0, 0)) ∧ Own1 W' v' acc ∧ ∀ g, blk v' g → blk v7 g ∨ W.heap.size ≤ g) 256 ?_ ?_
      · exact ⟨rfl, done, c, v7, by omega, hm, hc, by omega, Nat.le_refl _, l10, l4, l5, l7, k1, k2, k3, fun g hg => .inl hg⟩
      rintro j2 ds e W2 ⟨rfl, acc, c2, v', hcj, hacc, hc2, hal, hj256, l10, l4, l5, l7, q1, q2, q3, q4⟩
      by_cases hpos : 0 < c2
      · obtain ⟨j3, rfl⟩ : ∃ j3, j2 = j3 + 1 := ⟨j2 - 1, by omega⟩
        rw [digF, if_pos hpos] at hacc
        have u1 : Int.tmod c2 58 = c2 % 58 := Int.tmod_eq_emod_of_nonneg (by omega)
        have u2 : IntKind.u8.wrap (c2 % 58) = c2 % 58 := by rw [wrap_u8]; omega
        have u3 : IntKind.i64.wrap (Int.tdiv c2 58) = c2 / 58 := by rw [Int.tdiv_eq_ediv_of_nonneg (by omega)]; exact wrap_i64 (by omega) (by omega)
        have q5 := q1.at o3 n5
        simp (disch := first | omega | assumption | rfl | (simp only [vcS] <;> omega) | fail) only [↓vcC, slc3_s, ↓ptV_l, ↓vcA, vcB, ↓vcD, vcE, ↓reduceIte, Nat.reduceEqDiff, Nat.reduceAdd, Nat.reduceMul, Nat.reduceLeDiff, Int.reduceLE, Int.reduceLT, Int.reduceEq, Int.reduceToNat, Int.reduceAdd, Int.reduceSub, Int.reduceMul, Int.reduceNeg, reduceCtorEq, Option.bind_some, Option.map_some, List.length_cons, List.length_nil, vcM, List.getElem?_toArray, List.getElem?_cons_zero, List.getElem?_cons_succ, l10, hpos]
        (refine nx_at ?_; simp (disch := first | omega | assumption | rfl | (simp only [vcS] <;> omega) | fail) only [↓vcC, slc3_s, ↓ptV_l, ↓vcA, vcB, ↓vcD, vcE, ↓reduceIte, Nat.reduceEqDiff, Nat.reduceAdd, Nat.reduceMul, Nat.reduceLeDiff, Int.reduceLE, Int.reduceLT, Int.reduceEq, Int.reduceToNat, Int.reduceAdd, Int.reduceSub, Int.reduceMul, Int.reduceNeg, reduceCtorEq, Option.bind_some, Option.map_some, List.length_cons, List.length_nil, vcM, List.getElem?_toArray, List.getElem?_cons_zero, List.getElem?_cons_succ])
        (refine nx_at ?_; simp (disch := first | omega | assumption | rfl | (simp only [vcS] <;> omega) | fail) only [↓vcC, slc3_s, ↓ptV_l, ↓vcA, vcB, ↓vcD, vcE, ↓reduceIte, Nat.reduceEqDiff, Nat.reduceAdd, Nat.reduceMul, Nat.reduceLeDiff, Int.reduceLE, Int.reduceLT, Int.reduceEq, Int.reduceToNat, Int.reduceAdd, Int.reduceSub, Int.reduceMul, Int.reduceNeg, reduceCtorEq, Option.bind_some, Option.map_some, List.length_cons, List.length_nil, vcM, List.getElem?_toArray, List.getElem?_cons_zero, List.getElem?_cons_succ, l7, l10, l5, q2, q5, u1, u2])
        refine ⟨?_, ?_⟩
        · rw [heap_old _ _ _ (Nat.ne_of_lt (lt_of_heap (show W2.drew.heap[p7]? = _ from q2)))]
          rw [show W2.drew.heap[p7]? = _ from q2]; rfl
        refine appL (news := [c2 % 58]) (q3.ext ((Keep.refl _ W2).drew)) (by simp; omega) fun v2 W3 r1 r2 r3 => ?_
        have r4 : W3.heap[p7]? = some (.cells #[v'] 22 (0, 0)) := r2.at (show W2.drew.heap[p7]? = _ from q2) (fun e => by obtain ⟨cur, hc⟩ := row_type q3 e; rw [q2] at hc; cases hc)
        have nb : ∀ g, blk v2 g → g ≠ p7 := fun g hg e => by
          rcases r3 g hg with e2 | e2
          · subst e; obtain ⟨cur, hc⟩ := row_type q3 e2; rw [q2] at hc; cases hc
          · have := lt_of_heap (show W2.drew.heap[p7]? = _ from q2); omega
        refine ⟨one_row r1, wr1_of r4 (by simp), ?_⟩
        have r5 : (W3.setCell ⟨p7, 0, none⟩ v2).heap[p7]? = some (.cells #[v2] 22 (0, 0)) := by rw [heap_setCell_eq r4]; rfl
        have r6 : Keep (fun i => i = p7) W3 (W3.setCell ⟨p7, 0, none⟩ v2) := (Keep.refl _ W3).setCell _ fun _ => rfl
        have r7 : Keep (WS p7 v7) W W3 := by
          refine (q1.drew).trans r2 fun i hi e => ?_
          rcases q4 i e with e2 | e2
          · exact .inr e2
          · omega
        have r8 := r7.trans r6 fun i _ e => .inl e
        have r9 := r8.at o3 n5
        generalize World.setCell _ _ _ = W4 at r5 r6 r8 r9 ⊢
        (refine nx_at ?_; simp (disch := first | omega | assumption | rfl | (simp only [vcS] <;> omega) | fail) only [↓vcC, slc3_s, ↓ptV_l, ↓vcA, vcB, ↓vcD, vcE, ↓reduceIte, Nat.reduceEqDiff, Nat.reduceAdd, Nat.reduceMul, Nat.reduceLeDiff, Int.reduceLE, Int.reduceLT, Int.reduceEq, Int.reduceToNat, Int.reduceAdd, Int.reduceSub, Int.reduceMul, Int.reduceNeg, reduceCtorEq, Option.bind_some, Option.map_some, List.length_cons, List.length_nil, vcM, List.getElem?_toArray, List.getElem?_cons_zero, List.getElem?_cons_succ, l10, l5, r9, u3])
        refine ⟨j3, rfl, acc ++ [c2 % 58], c2 / 58, v2, by omega, by rw [← hacc]; simp, by omega, by simp; omega, by omega, rfl, l4, l7, r8, r5, r1.keep r6 fun g hg e => nb g hg e, fun g hg => ?_⟩
        rcases r3 g hg with e2 | e2
        · exact q4 g e2
        · exact .inr (Nat.le_trans q1.size e2)
      · have hneg : ¬ 0 < c2 := hpos
        have hz : digF j2 c2 = [] := by cases j2 <;> simp [digF, hneg]
        rw [hz, List.append_nil] at hacc
        simp (disch := first | omega | assumption | rfl | (simp only [vcS] <;> omega) | fail) only [↓vcC, slc3_s, ↓ptV_l, ↓vcA, vcB, ↓vcD, vcE, ↓reduceIte, Nat.reduceEqDiff, Nat.reduceAdd, Nat.reduceMul, Nat.reduceLeDiff, Int.reduceLE, Int.reduceLT, Int.reduceEq, Int.reduceToNat, Int.reduceAdd, Int.reduceSub, Int.reduceMul, Int.reduceNeg, reduceCtorEq, Option.bind_some, Option.map_some, List.length_cons, List.length_nil, vcM, List.getElem?_toArray, List.getElem?_cons_zero, List.getElem?_cons_succ, l10, hneg]
        (refine nx_at ?_; simp (disch := first | omega | assumption | rfl | (simp only [vcS] <;> omega) | fail) only [↓vcC, slc3_s, ↓ptV_l, ↓vcA, vcB, ↓vcD, vcE, ↓reduceIte, Nat.reduceEqDiff, Nat.reduceAdd, Nat.reduceMul, Nat.reduceLeDiff, Int.reduceLE, Int.reduceLT, Int.reduceEq, Int.reduceToNat, Int.reduceAdd, Int.reduceSub, Int.reduceMul, Int.reduceNeg, reduceCtorEq, Option.bind_some, Option.map_some, List.length_cons, List.length_nil, vcM, List.getElem?_toArray, List.getElem?_cons_zero, List.getElem?_cons_succ])
        rw [← hacc]
        exact fin W2 v' acc q1 q2 q3 q4
  · rintro D xs W hDD rfl ⟨⟨o1, o2, o3, o4, v7, o5, o6, o7⟩, m1, gs⟩ hDK
    have hrev : (List.finRange ids.length).reverse.map (fun (t : Fin ids.length) => ids[t.val]) = ids.reverse := by
      rw [List.map_reverse]
      congr 1
      exact List.ext_getElem (by simp) (fun i h1 h2 => by simp)
    rw [hrev] at o6
    (refine nx_at ?_; simp (disch := first | omega | assumption | rfl | (simp only [vcS] <;> omega) | fail) only [↓vcC, slc3_s, ↓ptV_l, ↓vcA, vcB, ↓vcD, vcE, ↓reduceIte, Nat.reduceEqDiff, Nat.reduceAdd, Nat.reduceMul, Nat.reduceLeDiff, Int.reduceLE, Int.reduceLT, Int.reduceEq, Int.reduceToNat, Int.reduceAdd, Int.reduceSub, Int.reduceMul, Int.reduceNeg, reduceCtorEq, Option.bind_some, Option.map_some, List.length_cons, List.length_nil, vcM, List.getElem?_toArray, List.getElem?_cons_zero, List.getElem?_cons_succ, o5])
    (refine nx_at ?_; simp (disch := first | omega | assumption | rfl | (simp only [vcS] <;> omega) | fail) only [↓vcC, slc3_s, ↓ptV_l, ↓vcA, vcB, ↓vcD, vcE, ↓reduceIte, Nat.reduceEqDiff, Nat.reduceAdd, Nat.reduceMul, Nat.reduceLeDiff, Int.reduceLE, Int.reduceLT, Int.reduceEq, Int.reduceToNat, Int.reduceAdd, Int.reduceSub, Int.reduceMul, Int.reduceNeg, reduceCtorEq, Option.bind_some, Option.map_some, List.length_cons, List.length_nil, vcM, List.getElem?_toArray, List.getElem?_cons_zero, List.getElem?_cons_succ])
    refine lvV_cons hDK ?_
    simp (disch := first | omega | assumption | rfl | (simp only [vcS] <;> omega) | fail) only [↓vcC, slc3_s, ↓ptV_l, ↓vcA, vcB, ↓vcD, vcE, ↓reduceIte, Nat.reduceEqDiff, Nat.reduceAdd, Nat.reduceMul, Nat.reduceLeDiff, Int.reduceLE, Int.reduceLT, Int.reduceEq, Int.reduceToNat, Int.reduceAdd, Int.reduceSub, Int.reduceMul, Int.reduceNeg, reduceCtorEq, Option.bind_some, Option.map_some, List.length_cons, List.length_nil, vcM, List.getElem?_toArray, List.getElem?_cons_zero, List.getElem?_cons_succ, Ret_returned]
    have hkD : Keep (fun k => k = D) W (W.putObj D (.deferred none)) := (Keep.refl _ W).grown (grownBy_putObj' W D _) (fun k _ h => by cases h; rfl)
    exact ⟨o6.keep hkD (fun g hg e => by subst e; obtain ⟨cur, hc⟩ := row_type o6 hg; rw [hDK] at hc; cases hc), o1.trans hkD fun k hk e => by have := hO3.ext.size; omega, o7⟩
  · rintro D key pre W hDD hS hF hDK
    exact hF.elim
end Go.Proofs
namespace Go.Proofs
open Go.Vc Go.RowKit
set_option maxRecDepth 10000

theorem spliceA_nil (c : Array Value) (o : Nat) : spliceA c o #[] = c := by
  apply Array.ext'
  simp [spliceA]
/-- 'copy' into a part of a block. -/
theorem cpy_in {w : World} {b o n cap : Nat} {x : Value} {bs : List Int} {cur : Array Value} {t : TypeId} {K : Value → World → Prop} (hb : w.heap[b]? = some (.cells cur t (0, 0))) (ho : o + n ≤ cur.size) (hx : Rd w x bs) (hl : bs.length ≤ n)
    (hk : ∀ w', w'.heap[b]? = some (.cells (spliceA cur o (bv bs).toArray) t (0, 0)) → Keep (fun k => k = b) w w' → K (.int .i64 (bs.length : Nat)) w') : cpyV 1 (.slice (some ⟨b, o, none⟩) n cap) x w K := by
  obtain ⟨⟨q, c, rfl, hc⟩, hm, hr⟩ := hx
  have hmin : Nat.min bs.length n = bs.length := Nat.min_eq_left hl
  unfold cpyV
  simp only [hmin, hr, getV_some, Nat.mul_one]
  refine ⟨bv_flat bs, fun h0 => ?_, fun h0 => ⟨b, o, rfl, okN_of hb (by omega), hk _ (heap_putN_eq hb) ((Keep.refl _ w).putN _ fun _ => rfl)⟩⟩
  have : bs = [] := List.eq_nil_of_length_eq_zero h0
  subst this
  refine hk w ?_ (Keep.refl _ w)
  rw [hb]
  have e : (bv []).toArray = (#[] : Array Value) := rfl
  rw [e, spliceA_nil]
theorem mul64_ok (w : World) : Calls Tryd.prog 65 #[.int .u64 1, .int .u64 2] w (Ret fun u w' => u = .tuple #[.int .u64 0, .int .u64 2] ∧ w' = w) := by
  refine calls_of_cfg c65_ok (Nat.le_of_ble_eq_true rfl) ?_
  simp only [argE_nil, argE_cons, Nat.reduceAdd, Nat.zero_add]
  have a0 : IntKind.u64.wrap (((BitVec.ofInt IntKind.u64.bits 0 &&& BitVec.ofInt IntKind.u64.bits 4294967295).toNat : Nat) : Int) = 0 := by decide +kernel
  have a1 : IntKind.u64.wrap (((BitVec.ofInt IntKind.u64.bits 1 &&& BitVec.ofInt IntKind.u64.bits 4294967295).toNat : Nat) : Int) = 1 := by decide +kernel
  have a2 : IntKind.u64.wrap (((BitVec.ofInt IntKind.u64.bits 2 &&& BitVec.ofInt IntKind.u64.bits 4294967295).toNat : Nat) : Int) = 2 := by decide +kernel
  have s0 : (0 : Int).fdiv (2 ^ Nat.min 32 IntKind.u64.bits) = 0 := by decide +kernel
  have s1 : (1 : Int).fdiv (2 ^ Nat.min 32 IntKind.u64.bits) = 0 := by decide +kernel
  have s2 : (2 : Int).fdiv (2 ^ Nat.min 32 IntKind.u64.bits) = 0 := by decide +kernel
  have w0 : IntKind.u64.wrap 0 = 0 := by decide
  have w2 : IntKind.u64.wrap 2 = 2 := by decide
  (refine W_at c65_ok ?_; refine ⟨_, rfl, ?_⟩; simp (disch := first | omega | assumption | rfl | (simp only [vcS] <;> omega) | fail) only [↓ptV_l, ↓vcA, vcB, ↓vcD, vcE, ↓reduceIte, Nat.reduceEqDiff, Nat.reduceAdd, Nat.reduceMul, Nat.reduceLeDiff, Int.reduceLE, Int.reduceLT, Int.reduceEq, Int.reduceToNat, Int.reduceAdd, Int.reduceSub, Int.reduceMul, Int.reduceNeg, reduceCtorEq, Option.bind_some, Option.map_some, List.length_cons, List.length_nil, vcM, List.getElem?_toArray, List.getElem?_cons_zero, List.getElem?_cons_succ, a0, a1, a2, s0, s1, s2, w0, w2])
  (refine W_at c65_ok ?_; refine ⟨_, rfl, ?_⟩; simp (disch := first | omega | assumption | rfl | (simp only [vcS] <;> omega) | fail) only [↓ptV_l, ↓vcA, vcB, ↓vcD, vcE, ↓reduceIte, Nat.reduceEqDiff, Nat.reduceAdd, Nat.reduceMul, Nat.reduceLeDiff, Int.reduceLE, Int.reduceLT, Int.reduceEq, Int.reduceToNat, Int.reduceAdd, Int.reduceSub, Int.reduceMul, Int.reduceNeg, reduceCtorEq, Option.bind_some, Option.map_some, List.length_cons, List.length_nil, vcM, List.getElem?_toArray, List.getElem?_cons_zero, List.getElem?_cons_succ, a0, a1, a2, s0, s1, s2, w0, w2])
  (refine W_at c65_ok ?_; refine ⟨_, rfl, ?_⟩; simp (disch := first | omega | assumption | rfl | (simp only [vcS] <;> omega) | fail) only [↓ptV_l, ↓vcA, vcB, ↓vcD, vcE, ↓reduceIte, Nat.reduceEqDiff, Nat.reduceAdd, Nat.reduceMul, Nat.reduceLeDiff, Int.reduceLE, Int.reduceLT, Int.reduceEq, Int.reduceToNat, Int.reduceAdd, Int.reduceSub, Int.reduceMul, Int.reduceNeg, reduceCtorEq, Option.bind_some, Option.map_some, List.length_cons, List.length_nil, vcM, List.getElem?_toArray, List.getElem?_cons_zero, List.getElem?_cons_succ, a0, a1, a2, s0, s1, s2, w0, w2])
  (refine W_at c65_ok ?_; refine ⟨_, rfl, ?_⟩; simp (disch := first | omega | assumption | rfl | (simp only [vcS] <;> omega) | fail) only [↓ptV_l, ↓vcA, vcB, ↓vcD, vcE, ↓reduceIte, Nat.reduceEqDiff, Nat.reduceAdd, Nat.reduceMul, Nat.reduceLeDiff, Int.reduceLE, Int.reduceLT, Int.reduceEq, Int.reduceToNat, Int.reduceAdd, Int.reduceSub, Int.reduceMul, Int.reduceNeg, reduceCtorEq, Option.bind_some, Option.map_some, List.length_cons, List.length_nil, vcM, List.getElem?_toArray, List.getElem?_cons_zero, List.getElem?_cons_succ, a0, a1, a2, s0, s1, s2, w0, w2])
  (refine W_at c65_ok ?_; refine ⟨_, rfl, ?_⟩; simp (disch := first | omega | assumption | rfl | (simp only [vcS] <;> omega) | fail) only [↓ptV_l, ↓vcA, vcB, ↓vcD, vcE, ↓reduceIte, Nat.reduceEqDiff, Nat.reduceAdd, Nat.reduceMul, Nat.reduceLeDiff, Int.reduceLE, Int.reduceLT, Int.reduceEq, Int.reduceToNat, Int.reduceAdd, Int.reduceSub, Int.reduceMul, Int.reduceNeg, reduceCtorEq, Option.bind_some, Option.map_some, List.length_cons, List.length_nil, vcM, List.getElem?_toArray, List.getElem?_cons_zero, List.getElem?_cons_succ, a0, a1, a2, s0, s1, s2, w0, w2])
  (refine W_at c65_ok ?_; refine ⟨_, rfl, ?_⟩; simp (disch := first | omega | assumption | rfl | (simp only [vcS] <;> omega) | fail) only [↓ptV_l, ↓vcA, vcB, ↓vcD, vcE, ↓reduceIte, Nat.reduceEqDiff, Nat.reduceAdd, Nat.reduceMul, Nat.reduceLeDiff, Int.reduceLE, Int.reduceLT, Int.reduceEq, Int.reduceToNat, Int.reduceAdd, Int.reduceSub, Int.reduceMul, Int.reduceNeg, reduceCtorEq, Option.bind_some, Option.map_some, List.length_cons, List.length_nil, vcM, List.getElem?_toArray, List.getElem?_cons_zero, List.getElem?_cons_succ, a0, a1, a2, s0, s1, s2, w0, w2])
  (refine W_at c65_ok ?_; refine ⟨_, rfl, ?_⟩; simp (disch := first | omega | assumption | rfl | (simp only [vcS] <;> omega) | fail) only [↓ptV_l, ↓vcA, vcB, ↓vcD, vcE, ↓reduceIte, Nat.reduceEqDiff, Nat.reduceAdd, Nat.reduceMul, Nat.reduceLeDiff, Int.reduceLE, Int.reduceLT, Int.reduceEq, Int.reduceToNat, Int.reduceAdd, Int.reduceSub, Int.reduceMul, Int.reduceNeg, reduceCtorEq, Option.bind_some, Option.map_some, List.length_cons, List.length_nil, vcM, List.getElem?_toArray, List.getElem?_cons_zero, List.getElem?_cons_succ, a0, a1, a2, s0, s1, s2, w0, w2])
  (refine W_at c65_ok ?_; refine ⟨_, rfl, ?_⟩; simp (disch := first | omega | assumption | rfl | (simp only [vcS] <;> omega) | fail) only [↓ptV_l, ↓vcA, vcB, ↓vcD, vcE, ↓reduceIte, Nat.reduceEqDiff, Nat.reduceAdd, Nat.reduceMul, Nat.reduceLeDiff, Int.reduceLE, Int.reduceLT, Int.reduceEq, Int.reduceToNat, Int.reduceAdd, Int.reduceSub, Int.reduceMul, Int.reduceNeg, reduceCtorEq, Option.bind_some, Option.map_some, List.length_cons, List.length_nil, vcM, List.getElem?_toArray, List.getElem?_cons_zero, List.getElem?_cons_succ, a0, a1, a2, s0, s1, s2, w0, w2])
  (refine W_at c65_ok ?_; refine ⟨_, rfl, ?_⟩; simp (disch := first | omega | assumption | rfl | (simp only [vcS] <;> omega) | fail) only [↓ptV_l, ↓vcA, vcB, ↓vcD, vcE, ↓reduceIte, Nat.reduceEqDiff, Nat.reduceAdd, Nat.reduceMul, Nat.reduceLeDiff, Int.reduceLE, Int.reduceLT, Int.reduceEq, Int.reduceToNat, Int.reduceAdd, Int.reduceSub, Int.reduceMul, Int.reduceNeg, reduceCtorEq, Option.bind_some, Option.map_some, List.length_cons, List.length_nil, vcM, List.getElem?_toArray, List.getElem?_cons_zero, List.getElem?_cons_succ, a0, a1, a2, s0, s1, s2, w0, w2])
  (refine W_at c65_ok ?_; refine ⟨_, rfl, ?_⟩; simp (disch := first | omega | assumption | rfl | (simp only [vcS] <;> omega) | fail) only [↓ptV_l, ↓vcA, vcB, ↓vcD, vcE, ↓reduceIte, Nat.reduceEqDiff, Nat.reduceAdd, Nat.reduceMul, Nat.reduceLeDiff, Int.reduceLE, Int.reduceLT, Int.reduceEq, Int.reduceToNat, Int.reduceAdd, Int.reduceSub, Int.reduceMul, Int.reduceNeg, reduceCtorEq, Option.bind_some, Option.map_some, List.length_cons, List.length_nil, vcM, List.getElem?_toArray, List.getElem?_cons_zero, List.getElem?_cons_succ, a0, a1, a2, s0, s1, s2, w0, w2])
  (refine W_at c65_ok ?_; refine ⟨_, rfl, ?_⟩; simp (disch := first | omega | assumption | rfl | (simp only [vcS] <;> omega) | fail) only [↓ptV_l, ↓vcA, vcB, ↓vcD, vcE, ↓reduceIte, Nat.reduceEqDiff, Nat.reduceAdd, Nat.reduceMul, Nat.reduceLeDiff, Int.reduceLE, Int.reduceLT, Int.reduceEq, Int.reduceToNat, Int.reduceAdd, Int.reduceSub, Int.reduceMul, Int.reduceNeg, reduceCtorEq, Option.bind_some, Option.map_some, List.length_cons, List.length_nil, vcM, List.getElem?_toArray, List.getElem?_cons_zero, List.getElem?_cons_succ, a0, a1, a2, s0, s1, s2, w0, w2])
  (refine W_at c65_ok ?_; refine ⟨_, rfl, ?_⟩; simp (disch := first | omega | assumption | rfl | (simp only [vcS] <;> omega) | fail) only [↓ptV_l, ↓vcA, vcB, ↓vcD, vcE, ↓reduceIte, Nat.reduceEqDiff, Nat.reduceAdd, Nat.reduceMul, Nat.reduceLeDiff, Int.reduceLE, Int.reduceLT, Int.reduceEq, Int.reduceToNat, Int.reduceAdd, Int.reduceSub, Int.reduceMul, Int.reduceNeg, reduceCtorEq, Option.bind_some, Option.map_some, List.length_cons, List.length_nil, vcM, List.getElem?_toArray, List.getElem?_cons_zero, List.getElem?_cons_succ, a0, a1, a2, s0, s1, s2, w0, w2])
  (refine W_at c65_ok ?_; refine ⟨_, rfl, ?_⟩; simp (disch := first | omega | assumption | rfl | (simp only [vcS] <;> omega) | fail) only [↓ptV_l, ↓vcA, vcB, ↓vcD, vcE, ↓reduceIte, Nat.reduceEqDiff, Nat.reduceAdd, Nat.reduceMul, Nat.reduceLeDiff, Int.reduceLE, Int.reduceLT, Int.reduceEq, Int.reduceToNat, Int.reduceAdd, Int.reduceSub, Int.reduceMul, Int.reduceNeg, reduceCtorEq, Option.bind_some, Option.map_some, List.length_cons, List.length_nil, vcM, List.getElem?_toArray, List.getElem?_cons_zero, List.getElem?_cons_succ, Ret_returned])
theorem mul_ok (w : World) : Calls Tryd.prog 53 #[.int .u64 1, .int .u64 2] w (Ret fun u w' => u = .tuple #[.int .u64 0, .int .u64 2] ∧ w' = w) := by
  refine calls_of_cfg c53_ok (Nat.le_of_ble_eq_true rfl) ?_
  simp only [argE_nil, argE_cons, Nat.reduceAdd, Nat.zero_add]
  have w0 : IntKind.u64.wrap 0 = 0 := by decide
  have w2 : IntKind.u64.wrap 2 = 2 := by decide
  (refine W_at c53_ok ?_; refine ⟨_, rfl, ?_⟩; simp (disch := first | omega | assumption | rfl | (simp only [vcS] <;> omega) | fail) only [↓ptV_l, ↓vcA, vcB, ↓vcD, vcE, ↓reduceIte, Nat.reduceEqDiff, Nat.reduceAdd, Nat.reduceMul, Nat.reduceLeDiff, Int.reduceLE, Int.reduceLT, Int.reduceEq, Int.reduceToNat, Int.reduceAdd, Int.reduceSub, Int.reduceMul, Int.reduceNeg, reduceCtorEq, Option.bind_some, Option.map_some, List.length_cons, List.length_nil, vcM, List.getElem?_toArray, List.getElem?_cons_zero, List.getElem?_cons_succ])
  (refine W_at c53_ok ?_; refine ⟨_, rfl, ?_⟩; simp (disch := first | omega | assumption | rfl | (simp only [vcS] <;> omega) | fail) only [↓ptV_l, ↓vcA, vcB, ↓vcD, vcE, ↓reduceIte, Nat.reduceEqDiff, Nat.reduceAdd, Nat.reduceMul, Nat.reduceLeDiff, Int.reduceLE, Int.reduceLT, Int.reduceEq, Int.reduceToNat, Int.reduceAdd, Int.reduceSub, Int.reduceMul, Int.reduceNeg, reduceCtorEq, Option.bind_some, Option.map_some, List.length_cons, List.length_nil, vcM, List.getElem?_toArray, List.getElem?_cons_zero, List.getElem?_cons_succ])
  (refine W_at c53_ok ?_; refine ⟨_, rfl, ?_⟩; simp (disch := first | omega | assumption | rfl | (simp only [vcS] <;> omega) | fail) only [↓ptV_l, ↓vcA, vcB, ↓vcD, vcE, ↓reduceIte, Nat.reduceEqDiff, Nat.reduceAdd, Nat.reduceMul, Nat.reduceLeDiff, Int.reduceLE, Int.reduceLT, Int.reduceEq, Int.reduceToNat, Int.reduceAdd, Int.reduceSub, Int.reduceMul, Int.reduceNeg, reduceCtorEq, Option.bind_some, Option.map_some, List.length_cons, List.length_nil, vcM, List.getElem?_toArray, List.getElem?_cons_zero, List.getElem?_cons_succ])
  refine callV_ret (mul64_ok w) ?_
  rintro _ w1 ⟨rfl, hw⟩
  obtain rfl : w = w1 := hw.symm
  first | (simp (disch := first | omega | assumption | rfl | (simp only [vcS] <;> omega) | fail) only [↓ptV_l, ↓vcA, vcB, ↓vcD, vcE, ↓reduceIte, Nat.reduceEqDiff, Nat.reduceAdd, Nat.reduceMul, Nat.reduceLeDiff, Int.reduceLE, Int.reduceLT, Int.reduceEq, Int.reduceToNat, Int.reduceAdd, Int.reduceSub, Int.reduceMul, Int.reduceNeg, reduceCtorEq, Option.bind_some, Option.map_some, List.length_cons, List.length_nil, vcM, List.getElem?_toArray, List.getElem?_cons_zero, List.getElem?_cons_succ]) | skip
  (refine W_at c53_ok ?_; refine ⟨_, rfl, ?_⟩; simp (disch := first | omega | assumption | rfl | (simp only [vcS] <;> omega) | fail) only [↓ptV_l, ↓vcA, vcB, ↓vcD, vcE, ↓reduceIte, Nat.reduceEqDiff, Nat.reduceAdd, Nat.reduceMul, Nat.reduceLeDiff, Int.reduceLE, Int.reduceLT, Int.reduceEq, Int.reduceToNat, Int.reduceAdd, Int.reduceSub, Int.reduceMul, Int.reduceNeg, reduceCtorEq, Option.bind_some, Option.map_some, List.length_cons, List.length_nil, vcM, List.getElem?_toArray, List.getElem?_cons_zero, List.getElem?_cons_succ])
  (refine W_at c53_ok ?_; refine ⟨_, rfl, ?_⟩; simp (disch := first | omega | assumption | rfl | (simp only [vcS] <;> omega) | fail) only [↓ptV_l, ↓vcA, vcB, ↓vcD, vcE, ↓reduceIte, Nat.reduceEqDiff, Nat.reduceAdd, Nat.reduceMul, Nat.reduceLeDiff, Int.reduceLE, Int.reduceLT, Int.reduceEq, Int.reduceToNat, Int.reduceAdd, Int.reduceSub, Int.reduceMul, Int.reduceNeg, reduceCtorEq, Option.bind_some, Option.map_some, List.length_cons, List.length_nil, vcM, List.getElem?_toArray, List.getElem?_cons_zero, List.getElem?_cons_succ, Ret_returned])
theorem noZero_run {P : Program} {f : FuncId} {fn : Func} {ps : Array TypeId} {t : TypeId} (ht : P.underlying t = some (.slice 5)) (hf : P.funcs[f]? = some fn) (hname : (fn.name == "runtime.NumGoroutine") = false) (hb : fn.body.isNone = true) (hn : Extern.findNext fn = none) (he : Extern.find fn = some (Extern.BytealgMakeNoZero.makeNoZero ps #[t])) (w : World) (n : Nat) (hn2 : n ≤ 1000000) :
    ∃ cs : Array Value, (callFunc f [Value.int .i64 n].toArray).run P w = .ok (.value (.slice (some ⟨w.heap.size, 0, none⟩) n cs.size)) (w.drew.drew.alloc (.cells cs 5)) ∧ n ≤ cs.size ∧ cs.size ≤ maxLen := by
  obtain ⟨cs, h1, h2, h3⟩ := Lib.run_makeNoZero (P := P) w ps t 5 ht n (by omega)
  refine ⟨cs, ?_, h2, h3 (by simp only [maxLen]; omega)⟩
  rw [run_callFunc_extern hf hname hb hn he]
  show ((Extern.BytealgMakeNoZero.makeNoZero ps #[t] #[.int .i64 n]).run P w).andThen _ = _
  rw [h1]
  rfl
/-- Bytes that fill what they lie in. -/
structure Full (w0 w : World) (u : Value) (bs : List Int) : Prop where
  is : ∃ g cur, u = .slice (some ⟨g, 0, none⟩) bs.length bs.length ∧ w.heap[g]? = some (.cells cur 5 (0, 0)) ∧ w0.heap.size ≤ g
  rd : Rd w u bs
  ext : Ext w0 w
theorem repeat2_ok (w : World) (v : Value) (c : Int) (h : Rd w v [c]) :
    Calls Tryd.prog 41 #[v, .int .i64 2] w (Ret fun u w' => Full w w' u [c, c]) := by
  refine calls_of_cfg c41_ok (Nat.le_of_ble_eq_true rfl) ?_
  simp only [argE_nil, argE_cons, Nat.reduceAdd, Nat.zero_add]
  have hlen : lenR v = some (.int .i64 1) := h.len
  have w1' : IntKind.u64.wrap 1 = 1 := by decide
  have w2' : IntKind.u64.wrap 2 = 2 := by decide
  have v2 : IntKind.i64.wrap 2 = 2 := by decide
  (refine W_at c41_ok ?_; refine ⟨_, rfl, ?_⟩; simp (disch := first | omega | assumption | rfl | (simp only [vcS] <;> omega) | fail) only [↓ptV_l, ↓vcA, vcB, ↓vcD, vcE, ↓reduceIte, Nat.reduceEqDiff, Nat.reduceAdd, Nat.reduceMul, Nat.reduceLeDiff, Int.reduceLE, Int.reduceLT, Int.reduceEq, Int.reduceToNat, Int.reduceAdd, Int.reduceSub, Int.reduceMul, Int.reduceNeg, reduceCtorEq, Option.bind_some, Option.map_some, List.length_cons, List.length_nil, vcM, List.getElem?_toArray, List.getElem?_cons_zero, List.getElem?_cons_succ])
  (refine W_at c41_ok ?_; refine ⟨_, rfl, ?_⟩; simp (disch := first | omega | assumption | rfl | (simp only [vcS] <;> omega) | fail) only [↓ptV_l, ↓vcA, vcB, ↓vcD, vcE, ↓reduceIte, Nat.reduceEqDiff, Nat.reduceAdd, Nat.reduceMul, Nat.reduceLeDiff, Int.reduceLE, Int.reduceLT, Int.reduceEq, Int.reduceToNat, Int.reduceAdd, Int.reduceSub, Int.reduceMul, Int.reduceNeg, reduceCtorEq, Option.bind_some, Option.map_some, List.length_cons, List.length_nil, vcM, List.getElem?_toArray, List.getElem?_cons_zero, List.getElem?_cons_succ])
  (refine W_at c41_ok ?_; refine ⟨_, rfl, ?_⟩; simp (disch := first | omega | assumption | rfl | (simp only [vcS] <;> omega) | fail) only [↓ptV_l, ↓vcA, vcB, ↓vcD, vcE, ↓reduceIte, Nat.reduceEqDiff, Nat.reduceAdd, Nat.reduceMul, Nat.reduceLeDiff, Int.reduceLE, Int.reduceLT, Int.reduceEq, Int.reduceToNat, Int.reduceAdd, Int.reduceSub, Int.reduceMul, Int.reduceNeg, reduceCtorEq, Option.bind_some, Option.map_some, List.length_cons, List.length_nil, vcM, List.getElem?_toArray, List.getElem?_cons_zero, List.getElem?_cons_succ])
  (refine W_at c41_ok ?_; refine ⟨_, rfl, ?_⟩; simp (disch := first | omega | assumption | rfl | (simp only [vcS] <;> omega) | fail) only [↓ptV_l, ↓vcA, vcB, ↓vcD, vcE, ↓reduceIte, Nat.reduceEqDiff, Nat.reduceAdd, Nat.reduceMul, Nat.reduceLeDiff, Int.reduceLE, Int.reduceLT, Int.reduceEq, Int.reduceToNat, Int.reduceAdd, Int.reduceSub, Int.reduceMul, Int.reduceNeg, reduceCtorEq, Option.bind_some, Option.map_some, List.length_cons, List.length_nil, vcM, List.getElem?_toArray, List.getElem?_cons_zero, List.getElem?_cons_succ])
  (refine W_at c41_ok ?_; refine ⟨_, rfl, ?_⟩; simp (disch := first | omega | assumption | rfl | (simp only [vcS] <;> omega) | fail) only [↓ptV_l, ↓vcA, vcB, ↓vcD, vcE, ↓reduceIte, Nat.reduceEqDiff, Nat.reduceAdd, Nat.reduceMul, Nat.reduceLeDiff, Int.reduceLE, Int.reduceLT, Int.reduceEq, Int.reduceToNat, Int.reduceAdd, Int.reduceSub, Int.reduceMul, Int.reduceNeg, reduceCtorEq, Option.bind_some, Option.map_some, List.length_cons, List.length_nil, vcM, List.getElem?_toArray, List.getElem?_cons_zero, List.getElem?_cons_succ])
  (refine W_at c41_ok ?_; refine ⟨_, rfl, ?_⟩; simp (disch := first | omega | assumption | rfl | (simp only [vcS] <;> omega) | fail) only [↓ptV_l, ↓vcA, vcB, ↓vcD, vcE, ↓reduceIte, Nat.reduceEqDiff, Nat.reduceAdd, Nat.reduceMul, Nat.reduceLeDiff, Int.reduceLE, Int.reduceLT, Int.reduceEq, Int.reduceToNat, Int.reduceAdd, Int.reduceSub, Int.reduceMul, Int.reduceNeg, reduceCtorEq, Option.bind_some, Option.map_some, List.length_cons, List.length_nil, vcM, List.getElem?_toArray, List.getElem?_cons_zero, List.getElem?_cons_succ, hlen, w1', w2'])
  refine callV_ret (mul_ok w) ?_
  rintro _ w1 ⟨rfl, hw⟩
  obtain rfl : w = w1 := hw.symm
  first | (simp (disch := first | omega | assumption | rfl | (simp only [vcS] <;> omega) | fail) only [↓ptV_l, ↓vcA, vcB, ↓vcD, vcE, ↓reduceIte, Nat.reduceEqDiff, Nat.reduceAdd, Nat.reduceMul, Nat.reduceLeDiff, Int.reduceLE, Int.reduceLT, Int.reduceEq, Int.reduceToNat, Int.reduceAdd, Int.reduceSub, Int.reduceMul, Int.reduceNeg, reduceCtorEq, Option.bind_some, Option.map_some, List.length_cons, List.length_nil, vcM, List.getElem?_toArray, List.getElem?_cons_zero, List.getElem?_cons_succ]) | skip
  (refine W_at c41_ok ?_; refine ⟨_, rfl, ?_⟩; simp (disch := first | omega | assumption | rfl | (simp only [vcS] <;> omega) | fail) only [↓ptV_l, ↓vcA, vcB, ↓vcD, vcE, ↓reduceIte, Nat.reduceEqDiff, Nat.reduceAdd, Nat.reduceMul, Nat.reduceLeDiff, Int.reduceLE, Int.reduceLT, Int.reduceEq, Int.reduceToNat, Int.reduceAdd, Int.reduceSub, Int.reduceMul, Int.reduceNeg, reduceCtorEq, Option.bind_some, Option.map_some, List.length_cons, List.length_nil, vcM, List.getElem?_toArray, List.getElem?_cons_zero, List.getElem?_cons_succ])
  (refine W_at c41_ok ?_; refine ⟨_, rfl, ?_⟩; simp (disch := first | omega | assumption | rfl | (simp only [vcS] <;> omega) | fail) only [↓ptV_l, ↓vcA, vcB, ↓vcD, vcE, ↓reduceIte, Nat.reduceEqDiff, Nat.reduceAdd, Nat.reduceMul, Nat.reduceLeDiff, Int.reduceLE, Int.reduceLT, Int.reduceEq, Int.reduceToNat, Int.reduceAdd, Int.reduceSub, Int.reduceMul, Int.reduceNeg, reduceCtorEq, Option.bind_some, Option.map_some, List.length_cons, List.length_nil, vcM, List.getElem?_toArray, List.getElem?_cons_zero, List.getElem?_cons_succ])
  (refine W_at c41_ok ?_; refine ⟨_, rfl, ?_⟩; simp (disch := first | omega | assumption | rfl | (simp only [vcS] <;> omega) | fail) only [↓ptV_l, ↓vcA, vcB, ↓vcD, vcE, ↓reduceIte, Nat.reduceEqDiff, Nat.reduceAdd, Nat.reduceMul, Nat.reduceLeDiff, Int.reduceLE, Int.reduceLT, Int.reduceEq, Int.reduceToNat, Int.reduceAdd, Int.reduceSub, Int.reduceMul, Int.reduceNeg, reduceCtorEq, Option.bind_some, Option.map_some, List.length_cons, List.length_nil, vcM, List.getElem?_toArray, List.getElem?_cons_zero, List.getElem?_cons_succ, v2])
  (refine W_at c41_ok ?_; refine ⟨_, rfl, ?_⟩; simp (disch := first | omega | assumption | rfl | (simp only [vcS] <;> omega) | fail) only [↓ptV_l, ↓vcA, vcB, ↓vcD, vcE, ↓reduceIte, Nat.reduceEqDiff, Nat.reduceAdd, Nat.reduceMul, Nat.reduceLeDiff, Int.reduceLE, Int.reduceLT, Int.reduceEq, Int.reduceToNat, Int.reduceAdd, Int.reduceSub, Int.reduceMul, Int.reduceNeg, reduceCtorEq, Option.bind_some, Option.map_some, List.length_cons, List.length_nil, vcM, List.getElem?_toArray, List.getElem?_cons_zero, List.getElem?_cons_succ, hlen])
  (refine W_at c41_ok ?_; refine ⟨_, rfl, ?_⟩; simp (disch := first | omega | assumption | rfl | (simp only [vcS] <;> omega) | fail) only [↓ptV_l, ↓vcA, vcB, ↓vcD, vcE, ↓reduceIte, Nat.reduceEqDiff, Nat.reduceAdd, Nat.reduceMul, Nat.reduceLeDiff, Int.reduceLE, Int.reduceLT, Int.reduceEq, Int.reduceToNat, Int.reduceAdd, Int.reduceSub, Int.reduceMul, Int.reduceNeg, reduceCtorEq, Option.bind_some, Option.map_some, List.length_cons, List.length_nil, vcM, List.getElem?_toArray, List.getElem?_cons_zero, List.getElem?_cons_succ])
  (refine W_at c41_ok ?_; refine ⟨_, rfl, ?_⟩; simp (disch := first | omega | assumption | rfl | (simp only [vcS] <;> omega) | fail) only [↓ptV_l, ↓vcA, vcB, ↓vcD, vcE, ↓reduceIte, Nat.reduceEqDiff, Nat.reduceAdd, Nat.reduceMul, Nat.reduceLeDiff, Int.reduceLE, Int.reduceLT, Int.reduceEq, Int.reduceToNat, Int.reduceAdd, Int.reduceSub, Int.reduceMul, Int.reduceNeg, reduceCtorEq, Option.bind_some, Option.map_some, List.length_cons, List.length_nil, vcM, List.getElem?_toArray, List.getElem?_cons_zero, List.getElem?_cons_succ, v2])
  (refine W_at c41_ok ?_; refine ⟨_, rfl, ?_⟩; simp (disch := first | omega | assumption | rfl | (simp only [vcS] <;> omega) | fail) only [↓ptV_l, ↓vcA, vcB, ↓vcD, vcE, ↓reduceIte, Nat.reduceEqDiff, Nat.reduceAdd, Nat.reduceMul, Nat.reduceLeDiff, Int.reduceLE, Int.reduceLT, Int.reduceEq, Int.reduceToNat, Int.reduceAdd, Int.reduceSub, Int.reduceMul, Int.reduceNeg, reduceCtorEq, Option.bind_some, Option.map_some, List.length_cons, List.length_nil, vcM, List.getElem?_toArray, List.getElem?_cons_zero, List.getElem?_cons_succ])
  (refine W_at c41_ok ?_; refine ⟨_, rfl, ?_⟩; simp (disch := first | omega | assumption | rfl | (simp only [vcS] <;> omega) | fail) only [↓ptV_l, ↓vcA, vcB, ↓vcD, vcE, ↓reduceIte, Nat.reduceEqDiff, Nat.reduceAdd, Nat.reduceMul, Nat.reduceLeDiff, Int.reduceLE, Int.reduceLT, Int.reduceEq, Int.reduceToNat, Int.reduceAdd, Int.reduceSub, Int.reduceMul, Int.reduceNeg, reduceCtorEq, Option.bind_some, Option.map_some, List.length_cons, List.length_nil, vcM, List.getElem?_toArray, List.getElem?_cons_zero, List.getElem?_cons_succ])
  (refine W_at c41_ok ?_; refine ⟨_, rfl, ?_⟩; simp (disch := first | omega | assumption | rfl | (simp only [vcS] <;> omega) | fail) only [↓ptV_l, ↓vcA, vcB, ↓vcD, vcE, ↓reduceIte, Nat.reduceEqDiff, Nat.reduceAdd, Nat.reduceMul, Nat.reduceLeDiff, Int.reduceLE, Int.reduceLT, Int.reduceEq, Int.reduceToNat, Int.reduceAdd, Int.reduceSub, Int.reduceMul, Int.reduceNeg, reduceCtorEq, Option.bind_some, Option.map_some, List.length_cons, List.length_nil, vcM, List.getElem?_toArray, List.getElem?_cons_zero, List.getElem?_cons_succ])
  obtain ⟨cs, hrun, hcs, hcm⟩ := noZero_run (P := Tryd.prog) (ps := #[3]) (t := 22) Tryd.underlying22 Tryd.func54 (by kernel_rfl) (by kernel_rfl) (by kernel_rfl) (by kernel_rfl) w 2 (by decide)
  have hcs1 : (2 : Int) ≤ (cs.size : Int) := by omega
  refine ⟨_, _, hrun, ?_⟩
  have hE1 : Ext w (w.drew.drew.alloc (.cells cs 5)) := (((Keep.refl _ w).drew).drew).alloc _
  have hg1 : (w.drew.drew.alloc (.cells cs 5)).heap[w.heap.size]? = some (.cells cs 5 (0, 0)) := heap_new _ _ _ rfl
  generalize World.alloc _ _ = w1 at hE1 hg1 ⊢
  generalize hgw : w.heap.size = g at hg1 ⊢
  have hsl : slc3R 1 none (Value.int IntKind.i64 2) (Value.int IntKind.i64 2) (Value.slice (some { block := g, off := 0 }) 2 cs.size) = some (.slice (some ⟨g, 0, none⟩) 2 2) := by
    simp [slc3R, hcs1, advA]
  first | (simp (disch := first | omega | assumption | rfl | (simp only [vcS] <;> omega) | fail) only [↓ptV_l, ↓vcA, vcB, ↓vcD, vcE, ↓reduceIte, Nat.reduceEqDiff, Nat.reduceAdd, Nat.reduceMul, Nat.reduceLeDiff, Int.reduceLE, Int.reduceLT, Int.reduceEq, Int.reduceToNat, Int.reduceAdd, Int.reduceSub, Int.reduceMul, Int.reduceNeg, reduceCtorEq, Option.bind_some, Option.map_some, List.length_cons, List.length_nil, vcM, List.getElem?_toArray, List.getElem?_cons_zero, List.getElem?_cons_succ, hsl]) | skip
  (refine W_at c41_ok ?_; refine ⟨_, rfl, ?_⟩; simp (disch := first | omega | assumption | rfl | (simp only [vcS] <;> omega) | fail) only [↓ptV_l, ↓vcA, vcB, ↓vcD, vcE, ↓reduceIte, Nat.reduceEqDiff, Nat.reduceAdd, Nat.reduceMul, Nat.reduceLeDiff, Int.reduceLE, Int.reduceLT, Int.reduceEq, Int.reduceToNat, Int.reduceAdd, Int.reduceSub, Int.reduceMul, Int.reduceNeg, reduceCtorEq, Option.bind_some, Option.map_some, List.length_cons, List.length_nil, vcM, List.getElem?_toArray, List.getElem?_cons_zero, List.getElem?_cons_succ])
  refine cpy_in (bs := [c]) hg1 (by simp; omega) (h.ext hE1) (by simp) fun w2 hg2 k2 => ?_
  first | (simp (disch := first | omega | assumption | rfl | (simp only [vcS] <;> omega) | fail) only [↓ptV_l, ↓vcA, vcB, ↓vcD, vcE, ↓reduceIte, Nat.reduceEqDiff, Nat.reduceAdd, Nat.reduceMul, Nat.reduceLeDiff, Int.reduceLE, Int.reduceLT, Int.reduceEq, Int.reduceToNat, Int.reduceAdd, Int.reduceSub, Int.reduceMul, Int.reduceNeg, reduceCtorEq, Option.bind_some, Option.map_some, List.length_cons, List.length_nil, vcM, List.getElem?_toArray, List.getElem?_cons_zero, List.getElem?_cons_succ]) | skip
  (refine W_at c41_ok ?_; refine ⟨_, rfl, ?_⟩; simp (disch := first | omega | assumption | rfl | (simp only [vcS] <;> omega) | fail) only [↓ptV_l, ↓vcA, vcB, ↓vcD, vcE, ↓reduceIte, Nat.reduceEqDiff, Nat.reduceAdd, Nat.reduceMul, Nat.reduceLeDiff, Int.reduceLE, Int.reduceLT, Int.reduceEq, Int.reduceToNat, Int.reduceAdd, Int.reduceSub, Int.reduceMul, Int.reduceNeg, reduceCtorEq, Option.bind_some, Option.map_some, List.length_cons, List.length_nil, vcM, List.getElem?_toArray, List.getElem?_cons_zero, List.getElem?_cons_succ])
  (refine W_at c41_ok ?_; refine ⟨_, rfl, ?_⟩; simp (disch := first | omega | assumption | rfl | (simp only [vcS] <;> omega) | fail) only [↓ptV_l, ↓vcA, vcB, ↓vcD, vcE, ↓reduceIte, Nat.reduceEqDiff, Nat.reduceAdd, Nat.reduceMul, Nat.reduceLeDiff, Int.reduceLE, Int.reduceLT, Int.reduceEq, Int.reduceToNat, Int.reduceAdd, Int.reduceSub, Int.reduceMul, Int.reduceNeg, reduceCtorEq, Option.bind_some, Option.map_some, List.length_cons, List.length_nil, vcM, List.getElem?_toArray, List.getElem?_cons_zero, List.getElem?_cons_succ])
  (refine W_at c41_ok ?_; refine ⟨_, rfl, ?_⟩; simp (disch := first | omega | assumption | rfl | (simp only [vcS] <;> omega) | fail) only [↓ptV_l, ↓vcA, vcB, ↓vcD, vcE, ↓reduceIte, Nat.reduceEqDiff, Nat.reduceAdd, Nat.reduceMul, Nat.reduceLeDiff, Int.reduceLE, Int.reduceLT, Int.reduceEq, Int.reduceToNat, Int.reduceAdd, Int.reduceSub, Int.reduceMul, Int.reduceNeg, reduceCtorEq, Option.bind_some, Option.map_some, List.length_cons, List.length_nil, vcM, List.getElem?_toArray, List.getElem?_cons_zero, List.getElem?_cons_succ])
  have hmin : min (1 : Int) 2 = 1 := by decide
  have hws : (spliceA cs 0 (bv [c]).toArray).size = cs.size := by
    simp only [spliceA, List.size_toArray, List.length_append, List.length_take, List.length_drop, Array.length_toList, bv_len]
    simp; omega
  have hr2 : Rd w2 (.slice (some ⟨g, 0, none⟩) 1 2) [c] := by
    refine ⟨⟨_, _, rfl, by simp⟩, by simp [maxLen], ?_⟩
    simp only [rdS]
    rw [if_neg (by simp)]
    simp only [rdN_heap, hg2]
    rw [rdO_some _ _ _ _ _ (by rw [hws]; simp; omega)]
    congr 1
    apply Array.ext'
    simp [spliceA, bv, List.extract_eq_take_drop]
  have hE2 : Ext w w2 := hE1.trans k2 fun i hi e => by omega
  have hadv : advA 1 (some ⟨g, 0, none⟩) 2 1 = some ⟨g, 1, none⟩ := by simp [advA, Addr.add]
  have a12 : IntKind.i64.wrap (1 + 1) = 2 := by decide
  have a2 : IntKind.i64.wrap 2 = 2 := by decide
  (refine W_at c41_ok ?_; refine ⟨_, rfl, ?_⟩; simp (disch := first | omega | assumption | rfl | (simp only [vcS] <;> omega) | fail) only [↓ptV_l, ↓vcA, vcB, ↓vcD, vcE, ↓reduceIte, Nat.reduceEqDiff, Nat.reduceAdd, Nat.reduceMul, Nat.reduceLeDiff, Int.reduceLE, Int.reduceLT, Int.reduceEq, Int.reduceToNat, Int.reduceAdd, Int.reduceSub, Int.reduceMul, Int.reduceNeg, reduceCtorEq, Option.bind_some, Option.map_some, List.length_cons, List.length_nil, vcM, List.getElem?_toArray, List.getElem?_cons_zero, List.getElem?_cons_succ, hmin, hadv, advA_0])
  refine cpy_in (bs := [c]) (show w2.drew.heap[g]? = _ from hg2) (by rw [hws]; omega) (hr2.ext ((Keep.refl _ w2).drew)) (by simp) fun w3 hg3 k3 => ?_
  first | (simp (disch := first | omega | assumption | rfl | (simp only [vcS] <;> omega) | fail) only [↓ptV_l, ↓vcA, vcB, ↓vcD, vcE, ↓reduceIte, Nat.reduceEqDiff, Nat.reduceAdd, Nat.reduceMul, Nat.reduceLeDiff, Int.reduceLE, Int.reduceLT, Int.reduceEq, Int.reduceToNat, Int.reduceAdd, Int.reduceSub, Int.reduceMul, Int.reduceNeg, reduceCtorEq, Option.bind_some, Option.map_some, List.length_cons, List.length_nil, vcM, List.getElem?_toArray, List.getElem?_cons_zero, List.getElem?_cons_succ, a12, a2]) | skip
  (refine W_at c41_ok ?_; refine ⟨_, rfl, ?_⟩; simp (disch := first | omega | assumption | rfl | (simp only [vcS] <;> omega) | fail) only [↓ptV_l, ↓vcA, vcB, ↓vcD, vcE, ↓reduceIte, Nat.reduceEqDiff, Nat.reduceAdd, Nat.reduceMul, Nat.reduceLeDiff, Int.reduceLE, Int.reduceLT, Int.reduceEq, Int.reduceToNat, Int.reduceAdd, Int.reduceSub, Int.reduceMul, Int.reduceNeg, reduceCtorEq, Option.bind_some, Option.map_some, List.length_cons, List.length_nil, vcM, List.getElem?_toArray, List.getElem?_cons_zero, List.getElem?_cons_succ, a12, a2])
  (refine W_at c41_ok ?_; refine ⟨_, rfl, ?_⟩; simp (disch := first | omega | assumption | rfl | (simp only [vcS] <;> omega) | fail) only [↓ptV_l, ↓vcA, vcB, ↓vcD, vcE, ↓reduceIte, Nat.reduceEqDiff, Nat.reduceAdd, Nat.reduceMul, Nat.reduceLeDiff, Int.reduceLE, Int.reduceLT, Int.reduceEq, Int.reduceToNat, Int.reduceAdd, Int.reduceSub, Int.reduceMul, Int.reduceNeg, reduceCtorEq, Option.bind_some, Option.map_some, List.length_cons, List.length_nil, vcM, List.getElem?_toArray, List.getElem?_cons_zero, List.getElem?_cons_succ])
  (refine W_at c41_ok ?_; refine ⟨_, rfl, ?_⟩; simp (disch := first | omega | assumption | rfl | (simp only [vcS] <;> omega) | fail) only [↓ptV_l, ↓vcA, vcB, ↓vcD, vcE, ↓reduceIte, Nat.reduceEqDiff, Nat.reduceAdd, Nat.reduceMul, Nat.reduceLeDiff, Int.reduceLE, Int.reduceLT, Int.reduceEq, Int.reduceToNat, Int.reduceAdd, Int.reduceSub, Int.reduceMul, Int.reduceNeg, reduceCtorEq, Option.bind_some, Option.map_some, List.length_cons, List.length_nil, vcM, List.getElem?_toArray, List.getElem?_cons_zero, List.getElem?_cons_succ])
  (refine W_at c41_ok ?_; refine ⟨_, rfl, ?_⟩; simp (disch := first | omega | assumption | rfl | (simp only [vcS] <;> omega) | fail) only [↓ptV_l, ↓vcA, vcB, ↓vcD, vcE, ↓reduceIte, Nat.reduceEqDiff, Nat.reduceAdd, Nat.reduceMul, Nat.reduceLeDiff, Int.reduceLE, Int.reduceLT, Int.reduceEq, Int.reduceToNat, Int.reduceAdd, Int.reduceSub, Int.reduceMul, Int.reduceNeg, reduceCtorEq, Option.bind_some, Option.map_some, List.length_cons, List.length_nil, vcM, List.getElem?_toArray, List.getElem?_cons_zero, List.getElem?_cons_succ])
  (refine W_at c41_ok ?_; refine ⟨_, rfl, ?_⟩; simp (disch := first | omega | assumption | rfl | (simp only [vcS] <;> omega) | fail) only [↓ptV_l, ↓vcA, vcB, ↓vcD, vcE, ↓reduceIte, Nat.reduceEqDiff, Nat.reduceAdd, Nat.reduceMul, Nat.reduceLeDiff, Int.reduceLE, Int.reduceLT, Int.reduceEq, Int.reduceToNat, Int.reduceAdd, Int.reduceSub, Int.reduceMul, Int.reduceNeg, reduceCtorEq, Option.bind_some, Option.map_some, List.length_cons, List.length_nil, vcM, List.getElem?_toArray, List.getElem?_cons_zero, List.getElem?_cons_succ, Ret_returned])
  have hE3 : Ext w w3 := (hE2.drew).trans k3 fun i hi e => by omega
  refine ⟨⟨g, _, rfl, hg3, by omega⟩, ⟨⟨_, _, rfl, by simp⟩, by simp [maxLen], ?_⟩, hE3⟩
  have hws2 : (spliceA (spliceA cs 0 (bv [c]).toArray) 1 (bv [c]).toArray).size = cs.size := by
    rw [← hws]
    simp only [spliceA, List.size_toArray, List.length_append, List.length_take, List.length_drop, Array.length_toList, bv_len]
    simp; omega
  simp only [rdS]
  rw [if_neg (by simp)]
  simp only [rdN_heap, hg3]
  rw [rdO_some _ _ _ _ _ (by rw [hws2]; simp; omega)]
  congr 1
  apply Array.ext'
  simp [spliceA, bv, List.extract_eq_take_drop]
end Go.Proofs
namespace Go.Proofs
open Go.Vc Go.RowKit
set_option maxRecDepth 10000

def l58S : List Int := [49, 50, 51, 52, 53, 54, 55, 56, 57, 65, 66, 67, 68, 69, 70, 71, 72, 74, 75, 76, 77, 78, 80, 81, 82, 83, 84, 85, 86, 87, 88, 89, 90, 97, 98, 99, 100, 101, 102, 103, 104, 105, 106, 107, 109, 110, 111, 112, 113, 114, 115, 116, 117, 118, 119, 120, 121, 122]
theorem l58S_is : (⟨#[49, 50, 51, 52, 53, 54, 55, 56, 57, 65, 66, 67, 68, 69, 70, 71, 72, 74, 75, 76, 77, 78, 80, 81, 82, 83, 84, 85, 86, 87, 88, 89, 90, 97, 98, 99, 100, 101, 102, 103, 104, 105, 106, 107, 109, 110, 111, 112, 113, 114, 115, 116, 117, 118, 119, 120, 121, 122]⟩ : ByteArray) = strOf l58S := by decide +kernel
/-- 'append' onto bytes that fill what they lie in. -/
theorem appFull {w0 w : World} {v : Value} {bs : List Int} {c : Int} {K : Value → World → Prop} (h : Full w0 w v bs) (hl : bs.length ≤ 100000)
    (hk : ∀ v' w', New w0 w' v' (bs ++ [c]) → Ext w w' → (∀ g, blk v' g → w.heap.size ≤ g) → K v' w') :
    appV 5 1 1 [.int .u8 0] v (.slice (some ⟨w.heap.size, 0, none⟩) 1 1) (w.alloc (.cells (bv [c]).toArray 5)) K := by
  obtain ⟨⟨g, cur, rfl, hg, hlo⟩, hrd, hext⟩ := h
  have hE : Ext w (w.alloc (.cells (bv [c]).toArray 5)) := (Keep.refl _ w).alloc _
  have h1 := (hrd.ext hE)
  obtain ⟨⟨q, cc, e, hcc⟩, hm, hr⟩ := h1
  have h2 := (own_lit1 (w := w) (bs := [c]) (by simp [maxLen])).rd
  obtain ⟨_, _, hr2⟩ := h2
  have hml : maxLen = 9223372036854775807 := rfl
  unfold appV
  simp only [List.length_cons, List.length_nil, Nat.zero_add] at hr2
  simp only [hr, hr2, getV_some]
  refine ⟨bv_flat _, by omega, by omega, rfl, fun hc => by omega, fun hc => by omega, fun _ c' hc1 hc2 => ?_⟩
  have hsz : (w.alloc (.cells (bv [c]).toArray 5)).heap.size = w.heap.size + 1 := size_alloc _ _
  have hE2 : Ext w ((w.alloc (.cells (bv [c]).toArray 5)).drew.alloc (.cells ((bv bs).toArray.toList ++ (bv [c]).toArray.toList ++ zrep (c' - (bs.length + 1)) [Value.int .u8 0]).toArray 5)) := (hE.drew).alloc _
  refine hk _ _ ⟨?_, hext.ext hE2, fun g' hg' => ?_⟩ hE2 fun g' hg' => ?_
  · refine ⟨by rw [bv_len, Nat.mul_one], .inr ⟨_, c', _, by simp, Nat.zero_le _, heap_alloc_new (w.alloc (.cells (bv [c]).toArray 5)).drew _, by simpa using hc1, hc2, ?_, ?_⟩⟩
    · simp [bv, zrep]; omega
    · simp [bv_app]
      rw [← List.append_assoc, List.take_append_of_le_length (by simp [bv])]
      exact List.take_of_length_le (by simp [bv])
  · have e := Option.some.inj hg'
    have := hext.size
    have : (w.alloc (.cells (bv [c]).toArray 5)).heap.size = g' := e
    omega
  · have e := Option.some.inj hg'
    have : (w.alloc (.cells (bv [c]).toArray 5)).heap.size = g' := e
    omega
set_option maxHeartbeats 1600000 in
theorem base58_aw (w : World) (v : Value) (h : Rd w v [0, 0, 1]) :
    Calls Tryd.prog 22 #[v] w (Ret fun u w' => u = .string (strOf [49, 49, 50]) ∧ Ext w w') := by
  refine calls_of_ct 3 t22_ok (Nat.le_of_ble_eq_true rfl) ?_
  simp only [argE_nil, argE_cons, Nat.reduceAdd, Nat.zero_add]
  have hlen : lenR v = some (.int .i64 3) := h.len
  simp (disch := first | omega | assumption | rfl | (simp only [vcS] <;> omega) | fail) only [t22, ↓vcC, slc3_s, ↓ptV_l, ↓vcA, vcB, ↓vcD, vcE, ↓reduceIte, Nat.reduceEqDiff, Nat.reduceAdd, Nat.reduceMul, Nat.reduceLeDiff, Int.reduceLE, Int.reduceLT, Int.reduceEq, Int.reduceToNat, Int.reduceAdd, Int.reduceSub, Int.reduceMul, Int.reduceNeg, reduceCtorEq, Option.bind_some, Option.map_some, List.length_cons, List.length_nil, vcM, List.getElem?_toArray, List.getElem?_cons_zero, List.getElem?_cons_succ]
  (refine nx_at ?_; simp (disch := first | omega | assumption | rfl | (simp only [vcS] <;> omega) | fail) only [↓vcC, slc3_s, ↓ptV_l, ↓vcA, vcB, ↓vcD, vcE, ↓reduceIte, Nat.reduceEqDiff, Nat.reduceAdd, Nat.reduceMul, Nat.reduceLeDiff, Int.reduceLE, Int.reduceLT, Int.reduceEq, Int.reduceToNat, Int.reduceAdd, Int.reduceSub, Int.reduceMul, Int.reduceNeg, reduceCtorEq, Option.bind_some, Option.map_some, List.length_cons, List.length_nil, vcM, List.getElem?_toArray, List.getElem?_cons_zero, List.getElem?_cons_succ, hlen])
  (refine nx_at ?_; simp (disch := first | omega | assumption | rfl | (simp only [vcS] <;> omega) | fail) only [↓vcC, slc3_s, ↓ptV_l, ↓vcA, vcB, ↓vcD, vcE, ↓reduceIte, Nat.reduceEqDiff, Nat.reduceAdd, Nat.reduceMul, Nat.reduceLeDiff, Int.reduceLE, Int.reduceLT, Int.reduceEq, Int.reduceToNat, Int.reduceAdd, Int.reduceSub, Int.reduceMul, Int.reduceNeg, reduceCtorEq, Option.bind_some, Option.map_some, List.length_cons, List.length_nil, vcM, List.getElem?_toArray, List.getElem?_cons_zero, List.getElem?_cons_succ, hlen])
  (refine nx_at ?_; simp (disch := first | omega | assumption | rfl | (simp only [vcS] <;> omega) | fail) only [↓vcC, slc3_s, ↓ptV_l, ↓vcA, vcB, ↓vcD, vcE, ↓reduceIte, Nat.reduceEqDiff, Nat.reduceAdd, Nat.reduceMul, Nat.reduceLeDiff, Int.reduceLE, Int.reduceLT, Int.reduceEq, Int.reduceToNat, Int.reduceAdd, Int.reduceSub, Int.reduceMul, Int.reduceNeg, reduceCtorEq, Option.bind_some, Option.map_some, List.length_cons, List.length_nil, vcM, List.getElem?_toArray, List.getElem?_cons_zero, List.getElem?_cons_succ])
  have w2' : IntKind.i64.wrap 2 = 2 := by decide
  obtain ⟨b, o, c, hv, hc0⟩ := h.at (i := 0) (by simp)
  obtain ⟨_, _, _, e, hc1⟩ := h.at (i := 1) (by simp)
  rw [hv] at e; cases e
  obtain ⟨_, _, _, e, hc2⟩ := h.at (i := 2) (by simp)
  rw [hv] at e; cases e
  simp only [List.getElem_cons_zero, List.getElem_cons_succ, Nat.add_zero] at hc0 hc1 hc2
  have hv' : v = .slice (some ⟨b, o, none⟩) 3 c := hv
  clear hv
  subst hv'
  refine lp_of (fun j ds e W => ds = [] ∧ W = w ∧ (1 ≤ j ∧ j ≤ 3) ∧ Vc.look e 13 = some (.int .i64 ((3 - j : Nat) : Int)) ∧ Vc.look e 12 = some (.int .i64 3) ∧ Vc.look e 11 = some (.slice (some ⟨b, o, none⟩) 3 c) ∧ Vc.look e 0 = some (.slice (some ⟨b, o, none⟩) 3 c)) 3 ?_ ?_
  · exact ⟨rfl, rfl, ⟨by decide, Nat.le_refl _⟩, rfl, rfl, rfl, rfl⟩
  rintro j ds e W ⟨rfl, rfl, hj, l13, l12, l11, l0⟩
  have w1' : IntKind.i64.wrap 1 = 1 := by decide
  match j, hj with
  | 0, hj => omega
  | 2, _ =>
    have l13' : Vc.look e 13 = some (.int .i64 1) := l13
    simp (disch := first | omega | assumption | rfl | (simp only [vcS] <;> omega) | fail) only [↓vcC, slc3_s, ↓ptV_l, ↓vcA, vcB, ↓vcD, vcE, ↓reduceIte, Nat.reduceEqDiff, Nat.reduceAdd, Nat.reduceMul, Nat.reduceLeDiff, Int.reduceLE, Int.reduceLT, Int.reduceEq, Int.reduceToNat, Int.reduceAdd, Int.reduceSub, Int.reduceMul, Int.reduceNeg, reduceCtorEq, Option.bind_some, Option.map_some, List.length_cons, List.length_nil, vcM, List.getElem?_toArray, List.getElem?_cons_zero, List.getElem?_cons_succ, l13', l12]
    (refine nx_at ?_; simp (disch := first | omega | assumption | rfl | (simp only [vcS] <;> omega) | fail) only [↓vcC, slc3_s, ↓ptV_l, ↓vcA, vcB, ↓vcD, vcE, ↓reduceIte, Nat.reduceEqDiff, Nat.reduceAdd, Nat.reduceMul, Nat.reduceLeDiff, Int.reduceLE, Int.reduceLT, Int.reduceEq, Int.reduceToNat, Int.reduceAdd, Int.reduceSub, Int.reduceMul, Int.reduceNeg, reduceCtorEq, Option.bind_some, Option.map_some, List.length_cons, List.length_nil, vcM, List.getElem?_toArray, List.getElem?_cons_zero, List.getElem?_cons_succ])
    (refine nx_at ?_; simp (disch := first | omega | assumption | rfl | (simp only [vcS] <;> omega) | fail) only [↓vcC, slc3_s, ↓ptV_l, ↓vcA, vcB, ↓vcD, vcE, ↓reduceIte, Nat.reduceEqDiff, Nat.reduceAdd, Nat.reduceMul, Nat.reduceLeDiff, Int.reduceLE, Int.reduceLT, Int.reduceEq, Int.reduceToNat, Int.reduceAdd, Int.reduceSub, Int.reduceMul, Int.reduceNeg, reduceCtorEq, Option.bind_some, Option.map_some, List.length_cons, List.length_nil, vcM, List.getElem?_toArray, List.getElem?_cons_zero, List.getElem?_cons_succ, l13', l11, hc1])
    (refine nx_at ?_; simp (disch := first | omega | assumption | rfl | (simp only [vcS] <;> omega) | fail) only [↓vcC, slc3_s, ↓ptV_l, ↓vcA, vcB, ↓vcD, vcE, ↓reduceIte, Nat.reduceEqDiff, Nat.reduceAdd, Nat.reduceMul, Nat.reduceLeDiff, Int.reduceLE, Int.reduceLT, Int.reduceEq, Int.reduceToNat, Int.reduceAdd, Int.reduceSub, Int.reduceMul, Int.reduceNeg, reduceCtorEq, Option.bind_some, Option.map_some, List.length_cons, List.length_nil, vcM, List.getElem?_toArray, List.getElem?_cons_zero, List.getElem?_cons_succ])
    (refine nx_at ?_; simp (disch := first | omega | assumption | rfl | (simp only [vcS] <;> omega) | fail) only [↓vcC, slc3_s, ↓ptV_l, ↓vcA, vcB, ↓vcD, vcE, ↓reduceIte, Nat.reduceEqDiff, Nat.reduceAdd, Nat.reduceMul, Nat.reduceLeDiff, Int.reduceLE, Int.reduceLT, Int.reduceEq, Int.reduceToNat, Int.reduceAdd, Int.reduceSub, Int.reduceMul, Int.reduceNeg, reduceCtorEq, Option.bind_some, Option.map_some, List.length_cons, List.length_nil, vcM, List.getElem?_toArray, List.getElem?_cons_zero, List.getElem?_cons_succ])
    (refine nx_at ?_; simp (disch := first | omega | assumption | rfl | (simp only [vcS] <;> omega) | fail) only [↓vcC, slc3_s, ↓ptV_l, ↓vcA, vcB, ↓vcD, vcE, ↓reduceIte, Nat.reduceEqDiff, Nat.reduceAdd, Nat.reduceMul, Nat.reduceLeDiff, Int.reduceLE, Int.reduceLT, Int.reduceEq, Int.reduceToNat, Int.reduceAdd, Int.reduceSub, Int.reduceMul, Int.reduceNeg, reduceCtorEq, Option.bind_some, Option.map_some, List.length_cons, List.length_nil, vcM, List.getElem?_toArray, List.getElem?_cons_zero, List.getElem?_cons_succ, l13', w2'])
    exact ⟨1, rfl, ⟨by decide, by decide⟩, rfl, l12, l11, l0⟩
  | 3, _ =>
    have l13' : Vc.look e 13 = some (.int .i64 0) := l13
    simp (disch := first | omega | assumption | rfl | (simp only [vcS] <;> omega) | fail) only [↓vcC, slc3_s, ↓ptV_l, ↓vcA, vcB, ↓vcD, vcE, ↓reduceIte, Nat.reduceEqDiff, Nat.reduceAdd, Nat.reduceMul, Nat.reduceLeDiff, Int.reduceLE, Int.reduceLT, Int.reduceEq, Int.reduceToNat, Int.reduceAdd, Int.reduceSub, Int.reduceMul, Int.reduceNeg, reduceCtorEq, Option.bind_some, Option.map_some, List.length_cons, List.length_nil, vcM, List.getElem?_toArray, List.getElem?_cons_zero, List.getElem?_cons_succ, l13', l12]
    (refine nx_at ?_; simp (disch := first | omega | assumption | rfl | (simp only [vcS] <;> omega) | fail) only [↓vcC, slc3_s, ↓ptV_l, ↓vcA, vcB, ↓vcD, vcE, ↓reduceIte, Nat.reduceEqDiff, Nat.reduceAdd, Nat.reduceMul, Nat.reduceLeDiff, Int.reduceLE, Int.reduceLT, Int.reduceEq, Int.reduceToNat, Int.reduceAdd, Int.reduceSub, Int.reduceMul, Int.reduceNeg, reduceCtorEq, Option.bind_some, Option.map_some, List.length_cons, List.length_nil, vcM, List.getElem?_toArray, List.getElem?_cons_zero, List.getElem?_cons_succ])
    (refine nx_at ?_; simp (disch := first | omega | assumption | rfl | (simp only [vcS] <;> omega) | fail) only [↓vcC, slc3_s, ↓ptV_l, ↓vcA, vcB, ↓vcD, vcE, ↓reduceIte, Nat.reduceEqDiff, Nat.reduceAdd, Nat.reduceMul, Nat.reduceLeDiff, Int.reduceLE, Int.reduceLT, Int.reduceEq, Int.reduceToNat, Int.reduceAdd, Int.reduceSub, Int.reduceMul, Int.reduceNeg, reduceCtorEq, Option.bind_some, Option.map_some, List.length_cons, List.length_nil, vcM, List.getElem?_toArray, List.getElem?_cons_zero, List.getElem?_cons_succ, l13', l11, hc0])
    (refine nx_at ?_; simp (disch := first | omega | assumption | rfl | (simp only [vcS] <;> omega) | fail) only [↓vcC, slc3_s, ↓ptV_l, ↓vcA, vcB, ↓vcD, vcE, ↓reduceIte, Nat.reduceEqDiff, Nat.reduceAdd, Nat.reduceMul, Nat.reduceLeDiff, Int.reduceLE, Int.reduceLT, Int.reduceEq, Int.reduceToNat, Int.reduceAdd, Int.reduceSub, Int.reduceMul, Int.reduceNeg, reduceCtorEq, Option.bind_some, Option.map_some, List.length_cons, List.length_nil, vcM, List.getElem?_toArray, List.getElem?_cons_zero, List.getElem?_cons_succ])
    (refine nx_at ?_; simp (disch := first | omega | assumption | rfl | (simp only [vcS] <;> omega) | fail) only [↓vcC, slc3_s, ↓ptV_l, ↓vcA, vcB, ↓vcD, vcE, ↓reduceIte, Nat.reduceEqDiff, Nat.reduceAdd, Nat.reduceMul, Nat.reduceLeDiff, Int.reduceLE, Int.reduceLT, Int.reduceEq, Int.reduceToNat, Int.reduceAdd, Int.reduceSub, Int.reduceMul, Int.reduceNeg, reduceCtorEq, Option.bind_some, Option.map_some, List.length_cons, List.length_nil, vcM, List.getElem?_toArray, List.getElem?_cons_zero, List.getElem?_cons_succ])
    (refine nx_at ?_; simp (disch := first | omega | assumption | rfl | (simp only [vcS] <;> omega) | fail) only [↓vcC, slc3_s, ↓ptV_l, ↓vcA, vcB, ↓vcD, vcE, ↓reduceIte, Nat.reduceEqDiff, Nat.reduceAdd, Nat.reduceMul, Nat.reduceLeDiff, Int.reduceLE, Int.reduceLT, Int.reduceEq, Int.reduceToNat, Int.reduceAdd, Int.reduceSub, Int.reduceMul, Int.reduceNeg, reduceCtorEq, Option.bind_some, Option.map_some, List.length_cons, List.length_nil, vcM, List.getElem?_toArray, List.getElem?_cons_zero, List.getElem?_cons_succ, l13', w1'])
    exact ⟨2, rfl, ⟨by decide, by decide⟩, rfl, l12, l11, l0⟩
  | 1, _ =>
    have l13' : Vc.look e 13 = some (.int .i64 2) := l13
    simp (disch := first | omega | assumption | rfl | (simp only [vcS] <;> omega) | fail) only [↓vcC, slc3_s, ↓ptV_l, ↓vcA, vcB, ↓vcD, vcE, ↓reduceIte, Nat.reduceEqDiff, Nat.reduceAdd, Nat.reduceMul, Nat.reduceLeDiff, Int.reduceLE, Int.reduceLT, Int.reduceEq, Int.reduceToNat, Int.reduceAdd, Int.reduceSub, Int.reduceMul, Int.reduceNeg, reduceCtorEq, Option.bind_some, Option.map_some, List.length_cons, List.length_nil, vcM, List.getElem?_toArray, List.getElem?_cons_zero, List.getElem?_cons_succ, l13', l12]
    (refine nx_at ?_; simp (disch := first | omega | assumption | rfl | (simp only [vcS] <;> omega) | fail) only [↓vcC, slc3_s, ↓ptV_l, ↓vcA, vcB, ↓vcD, vcE, ↓reduceIte, Nat.reduceEqDiff, Nat.reduceAdd, Nat.reduceMul, Nat.reduceLeDiff, Int.reduceLE, Int.reduceLT, Int.reduceEq, Int.reduceToNat, Int.reduceAdd, Int.reduceSub, Int.reduceMul, Int.reduceNeg, reduceCtorEq, Option.bind_some, Option.map_some, List.length_cons, List.length_nil, vcM, List.getElem?_toArray, List.getElem?_cons_zero, List.getElem?_cons_succ])
    (refine nx_at ?_; simp (disch := first | omega | assumption | rfl | (simp only [vcS] <;> omega) | fail) only [↓vcC, slc3_s, ↓ptV_l, ↓vcA, vcB, ↓vcD, vcE, ↓reduceIte, Nat.reduceEqDiff, Nat.reduceAdd, Nat.reduceMul, Nat.reduceLeDiff, Int.reduceLE, Int.reduceLT, Int.reduceEq, Int.reduceToNat, Int.reduceAdd, Int.reduceSub, Int.reduceMul, Int.reduceNeg, reduceCtorEq, Option.bind_some, Option.map_some, List.length_cons, List.length_nil, vcM, List.getElem?_toArray, List.getElem?_cons_zero, List.getElem?_cons_succ, l13', l11, hc2])
    (refine nx_at ?_; simp (disch := first | omega | assumption | rfl | (simp only [vcS] <;> omega) | fail) only [↓vcC, slc3_s, ↓ptV_l, ↓vcA, vcB, ↓vcD, vcE, ↓reduceIte, Nat.reduceEqDiff, Nat.reduceAdd, Nat.reduceMul, Nat.reduceLeDiff, Int.reduceLE, Int.reduceLT, Int.reduceEq, Int.reduceToNat, Int.reduceAdd, Int.reduceSub, Int.reduceMul, Int.reduceNeg, reduceCtorEq, Option.bind_some, Option.map_some, List.length_cons, List.length_nil, vcM, List.getElem?_toArray, List.getElem?_cons_zero, List.getElem?_cons_succ])
    (refine nx_at ?_; simp (disch := first | omega | assumption | rfl | (simp only [vcS] <;> omega) | fail) only [↓vcC, slc3_s, ↓ptV_l, ↓vcA, vcB, ↓vcD, vcE, ↓reduceIte, Nat.reduceEqDiff, Nat.reduceAdd, Nat.reduceMul, Nat.reduceLeDiff, Int.reduceLE, Int.reduceLT, Int.reduceEq, Int.reduceToNat, Int.reduceAdd, Int.reduceSub, Int.reduceMul, Int.reduceNeg, reduceCtorEq, Option.bind_some, Option.map_some, List.length_cons, List.length_nil, vcM, List.getElem?_toArray, List.getElem?_cons_zero, List.getElem?_cons_succ])
    (refine nx_at ?_; simp (disch := first | omega | assumption | rfl | (simp only [vcS] <;> omega) | fail) only [↓vcC, slc3_s, ↓ptV_l, ↓vcA, vcB, ↓vcD, vcE, ↓reduceIte, Nat.reduceEqDiff, Nat.reduceAdd, Nat.reduceMul, Nat.reduceLeDiff, Int.reduceLE, Int.reduceLT, Int.reduceEq, Int.reduceToNat, Int.reduceAdd, Int.reduceSub, Int.reduceMul, Int.reduceNeg, reduceCtorEq, Option.bind_some, Option.map_some, List.length_cons, List.length_nil, vcM, List.getElem?_toArray, List.getElem?_cons_zero, List.getElem?_cons_succ])
    have g0 : (strOf l58S)[0]? = some (UInt8.ofNat 49) := by decide +kernel
    have u0 : (((UInt8.ofNat 49).toNat : Nat) : Int) = 49 := by decide
    (refine nx_at ?_; simp (disch := first | omega | assumption | rfl | (simp only [vcS] <;> omega) | fail) only [↓vcC, slc3_s, ↓ptV_l, ↓vcA, vcB, ↓vcD, vcE, ↓reduceIte, Nat.reduceEqDiff, Nat.reduceAdd, Nat.reduceMul, Nat.reduceLeDiff, Int.reduceLE, Int.reduceLT, Int.reduceEq, Int.reduceToNat, Int.reduceAdd, Int.reduceSub, Int.reduceMul, Int.reduceNeg, reduceCtorEq, Option.bind_some, Option.map_some, List.length_cons, List.length_nil, vcM, List.getElem?_toArray, List.getElem?_cons_zero, List.getElem?_cons_succ, l58S_is, g0, u0])
    have hN1 : New W (W.alloc (.cells (bv [49]).toArray 5)) (.slice (some ⟨W.heap.size, 0, none⟩) 1 1) [49] := New.lit (bs := [49]) (by decide)
    refine callV_ret (repeat2_ok _ _ 49 hN1.own.rd) ?_
    rintro u w1 hF
    have hE1 := hN1.ext.ext hF.ext
    obtain ⟨g, cur, hu, hg, hlo⟩ := hF.is
    refine ⟨by rw [hu]; rfl, wr1_of (heap_new _ _ _ rfl) (by simp [size_zc]), ?_⟩
    have hz : zc [(1, Value.slice none 0 0)] = #[.slice none 0 0] := rfl
    rw [hz]
    have h6 : ((w1.alloc (.cells #[.slice none 0 0] 22)).setCell ⟨w1.heap.size, 0, none⟩ u).heap[w1.heap.size]? = some (.cells #[u] 22 (0, 0)) := by
      rw [heap_setCell_eq (heap_new _ _ _ rfl)]; rfl
    have hE2 : Ext w1 ((w1.alloc (.cells #[.slice none 0 0] 22)).setCell ⟨w1.heap.size, 0, none⟩ u) := ((Keep.refl _ w1).alloc _).setCell _ fun hh => by omega
    generalize World.setCell _ _ _ = w2 at h6 hE2 ⊢
    have hp6 := hE1.size
    generalize w1.heap.size = p6 at h6 hp6 ⊢
    have hr2 := (h.ext hE1).ext hE2
    (refine nx_at ?_; simp (disch := first | omega | assumption | rfl | (simp only [vcS] <;> omega) | fail) only [↓vcC, slc3_s, ↓ptV_l, ↓vcA, vcB, ↓vcD, vcE, ↓reduceIte, Nat.reduceEqDiff, Nat.reduceAdd, Nat.reduceMul, Nat.reduceLeDiff, Int.reduceLE, Int.reduceLT, Int.reduceEq, Int.reduceToNat, Int.reduceAdd, Int.reduceSub, Int.reduceMul, Int.reduceNeg, reduceCtorEq, Option.bind_some, Option.map_some, List.length_cons, List.length_nil, vcM, List.getElem?_toArray, List.getElem?_cons_zero, List.getElem?_cons_succ, l0])
    refine callV_ret (turned3_ok w2 _ 0 0 1 hr2) ?_
    rintro t27 w3 hT
    first | (simp (disch := first | omega | assumption | rfl | (simp only [vcS] <;> omega) | fail) only [↓vcC, slc3_s, ↓ptV_l, ↓vcA, vcB, ↓vcD, vcE, ↓reduceIte, Nat.reduceEqDiff, Nat.reduceAdd, Nat.reduceMul, Nat.reduceLeDiff, Int.reduceLE, Int.reduceLT, Int.reduceEq, Int.reduceToNat, Int.reduceAdd, Int.reduceSub, Int.reduceMul, Int.reduceNeg, reduceCtorEq, Option.bind_some, Option.map_some, List.length_cons, List.length_nil, vcM, List.getElem?_toArray, List.getElem?_cons_zero, List.getElem?_cons_succ]) | skip
    refine callV_ret (base_ok w3 t27 [1, 0, 0] hT.own (by intro x hx; simp at hx; omega) (by simp)) ?_
    rintro t28 w4 hB
    have hbF : baseF [1, 0, 0].reverse = [1] := by decide +kernel
    rw [hbF] at hB
    have hcell28 : t28.cells = #[t28] := by
      rcases hB.own.2 with ⟨rfl, _⟩ | ⟨_, _, _, rfl, _⟩ <;> rfl
    first | (simp (disch := first | omega | assumption | rfl | (simp only [vcS] <;> omega) | fail) only [↓vcC, slc3_s, ↓ptV_l, ↓vcA, vcB, ↓vcD, vcE, ↓reduceIte, Nat.reduceEqDiff, Nat.reduceAdd, Nat.reduceMul, Nat.reduceLeDiff, Int.reduceLE, Int.reduceLT, Int.reduceEq, Int.reduceToNat, Int.reduceAdd, Int.reduceSub, Int.reduceMul, Int.reduceNeg, reduceCtorEq, Option.bind_some, Option.map_some, List.length_cons, List.length_nil, vcM, List.getElem?_toArray, List.getElem?_cons_zero, List.getElem?_cons_succ]) | skip
    refine callV_ret (back_ok w4 t28 hcell28) ?_
    rintro _ w5 ⟨b1, T1, rfl, hm1, hE5, hl1, hl3, hT1⟩
    first | (simp (disch := first | omega | assumption | rfl | (simp only [vcS] <;> omega) | fail) only [↓vcC, slc3_s, ↓ptV_l, ↓vcA, vcB, ↓vcD, vcE, ↓reduceIte, Nat.reduceEqDiff, Nat.reduceAdd, Nat.reduceMul, Nat.reduceLeDiff, Int.reduceLE, Int.reduceLT, Int.reduceEq, Int.reduceToNat, Int.reduceAdd, Int.reduceSub, Int.reduceMul, Int.reduceNeg, reduceCtorEq, Option.bind_some, Option.map_some, List.length_cons, List.length_nil, vcM, List.getElem?_toArray, List.getElem?_cons_zero, List.getElem?_cons_succ]) | skip
    (refine nx_at ?_; simp (disch := first | omega | assumption | rfl | (simp only [vcS] <;> omega) | fail) only [↓vcC, slc3_s, ↓ptV_l, ↓vcA, vcB, ↓vcD, vcE, ↓reduceIte, Nat.reduceEqDiff, Nat.reduceAdd, Nat.reduceMul, Nat.reduceLeDiff, Int.reduceLE, Int.reduceLT, Int.reduceEq, Int.reduceToNat, Int.reduceAdd, Int.reduceSub, Int.reduceMul, Int.reduceNeg, reduceCtorEq, Option.bind_some, Option.map_some, List.length_cons, List.length_nil, vcM, List.getElem?_toArray, List.getElem?_cons_zero, List.getElem?_cons_succ])
    have hW5 : Ext w2 w5 := (hT.ext.ext hB.ext).ext hE5
    have h65 := hW5.at h6 (fun h => h)
    have hF5 := hF.rd.ext (hE2.ext hW5)
    have hg5 := (hE2.ext hW5).at hg (fun h => h)
    have hEw5 : Ext W w5 := (hE1.ext hE2).ext hW5
    have hst := back_stops w5 b1 t28 [1] T1 hm1 (hB.own.ext hE5) (by simp)
    have hbs : ∀ b ∈ b1 :: t28.ownBlock.toList, b < w5.heap.size := by
      intro b hb
      rcases List.mem_cons.1 hb with rfl | hb
      · exact hl1
      · have hbq : blk t28 b := by
          unfold Go.Proofs.blk
          cases ho : t28.ownBlock with
          | none => rw [ho] at hb; cases hb
          | some g => rw [ho] at hb; simp at hb; rw [hb]
        exact Nat.lt_of_lt_of_le (hB.own.lt hbq) hE5.size
    have h6b : ∀ b ∈ b1 :: t28.ownBlock.toList, b ≠ p6 := by
      intro b hb
      have h6l := lt_of_heap h6
      rcases List.mem_cons.1 hb with rfl | hb
      · have := hT.ext.size; have := hB.ext.size; omega
      · have hbq : blk t28 b := by
          unfold Go.Proofs.blk
          cases ho : t28.ownBlock with
          | none => rw [ho] at hb; cases hb
          | some g => rw [ho] at hb; simp at hb; rw [hb]
        have := hB.new b hbq
        have := hT.ext.size
        omega
    subst hu
    refine rg_of (b1 :: t28.ownBlock.toList) (by decide) _ _ _ _ _ _
      (fun (pre : List (Fin [(1 : Int)].length)) W' => Ext W W' ∧ w5.heap.size ≤ W'.heap.size ∧
        ((pre = [] ∧ W'.heap[p6]? = some (.cells #[.slice (some ⟨g, 0, none⟩) [(49 : Int), 49].length [(49 : Int), 49].length] 22 (0, 0)) ∧ W'.heap[g]? = some (.cells cur 5 (0, 0)) ∧ Rd W' (.slice (some ⟨g, 0, none⟩) [(49 : Int), 49].length [(49 : Int), 49].length) [49, 49]) ∨
         (pre.length = 1 ∧ ∃ v', W'.heap[p6]? = some (.cells #[v'] 22 (0, 0)) ∧ Own1 W' v' [49, 49, 50])))
      (fun _ _ _ => False)
      (fun t e1 W' => Vc.look e1 6 = some (.pointer (some ⟨p6, 0, none⟩)) ∧ Vc.look e1 8 = some (.int .u8 [(1 : Int)][t.val]))
      rfl rfl hbs hst (fun _ => rfl) ?_ ?_ ⟨hEw5, Nat.le_refl _, .inl ⟨rfl, h65, hg5, hF5⟩⟩ ?_ ?_ ?_ ?_ ?_
    · rintro pre W1 W2 row ⟨g1, g2, g3⟩ hgr hr
      refine ⟨g1.trans (keep_grow hgr hr) fun i hi hk => by have := hk.1; have := hEw5.size; omega, Nat.le_trans g2 hgr.size, ?_⟩
      rcases g3 with ⟨rfl, a1, a2, a3⟩ | ⟨a0, v', a1, a2⟩
      · refine .inl ⟨rfl, at_own hgr hr a1, at_own hgr hr a2, a3.keep (keep_grow hgr hr) fun q n c he hk => ?_⟩
        cases he
        obtain ⟨_, o', ho, hcc⟩ := hk
        rw [a2] at ho; cases ho; cases hcc
      · refine .inr ⟨a0, v', at_own hgr hr a1, a2.keep (keep_grow hgr hr) fun g' hgb hk => ?_⟩
        obtain ⟨_, o', ho, hcc⟩ := hk
        obtain ⟨cur', hcur⟩ := row_type a2 hgb
        rw [hcur] at ho; cases ho; cases hcc
    · rintro key pre W1 W2 row hFF hgr hr; exact hFF
    · rintro t e1 _ W1 W2 row hA hgr hr; exact hA
    · rintro l pre t W1 hI
      show ctV _ _ _ _ _ _ _ _ ((31, .int .u8 _) :: (30, .int .i64 _) :: _) _
      simp (disch := first | omega | assumption | rfl | (simp only [vcS] <;> omega) | fail) only [↓vcC, slc3_s, ↓ptV_l, ↓vcA, vcB, ↓vcD, vcE, ↓reduceIte, Nat.reduceEqDiff, Nat.reduceAdd, Nat.reduceMul, Nat.reduceLeDiff, Int.reduceLE, Int.reduceLT, Int.reduceEq, Int.reduceToNat, Int.reduceAdd, Int.reduceSub, Int.reduceMul, Int.reduceNeg, reduceCtorEq, Option.bind_some, Option.map_some, List.length_cons, List.length_nil, vcM, List.getElem?_toArray, List.getElem?_cons_zero, List.getElem?_cons_succ]
      exact ⟨KeepsFrom.refl _ _, fun _ _ => rfl, hI⟩
    · rintro l pre t e1 W1 hl hr ⟨g1, g2, g3⟩ ⟨l6, l8⟩ hlt
      have ht1 : [(1 : Int)][t.val] = 1 := by
        have := t.isLt
        match t with
        | ⟨0, _⟩ => rfl
      rw [ht1] at l8
      rcases g3 with ⟨rfl, a1, a2, a3⟩ | ⟨a0, _⟩
      · have g1' : (strOf l58S)[1]? = some (UInt8.ofNat 50) := by decide +kernel
        have u1' : (((UInt8.ofNat 50).toNat : Nat) : Int) = 50 := by decide
        simp (disch := first | omega | assumption | rfl | (simp only [vcS] <;> omega) | fail) only [↓vcC, slc3_s, ↓ptV_l, ↓vcA, vcB, ↓vcD, vcE, ↓reduceIte, Nat.reduceEqDiff, Nat.reduceAdd, Nat.reduceMul, Nat.reduceLeDiff, Int.reduceLE, Int.reduceLT, Int.reduceEq, Int.reduceToNat, Int.reduceAdd, Int.reduceSub, Int.reduceMul, Int.reduceNeg, reduceCtorEq, Option.bind_some, Option.map_some, List.length_cons, List.length_nil, vcM, List.getElem?_toArray, List.getElem?_cons_zero, List.getElem?_cons_succ, l6, l8, a1, l58S_is, g1', u1']
        have a1d : W1.drew.heap[p6]? = some (.cells #[.slice (some ⟨g, 0, none⟩) 2 2] 22 (0, 0)) := a1
        refine ⟨by rw [heap_old _ _ _ (Nat.ne_of_lt (lt_of_heap a1d)), a1d]; rfl, ?_⟩
        have hlg : W.heap.size ≤ g := by rw [size_alloc] at hlo; omega
        have hFd : Full W W1.drew (.slice (some ⟨g, 0, none⟩) 2 2) [49, 49] := ⟨⟨g, cur, rfl, a2, hlg⟩, a3.ext ((Keep.refl _ W1).drew), g1.ext ((Keep.refl _ W1).drew)⟩
        refine appFull hFd (by simp) fun v2 W2 n2 e2 f2 => ?_
        have a6 := e2.at a1d (fun h => h)
        have kk : Keep (fun i => i = p6) W2 (W2.setCell ⟨p6, 0, none⟩ v2) := (Keep.refl _ W2).setCell _ fun _ => rfl
        have kd : Keep (fun i => i = p6) W1 W1.drew := (Keep.refl _ W1).drew
        have kw : Keep (fun i => i = p6) W1 (W2.setCell ⟨p6, 0, none⟩ v2) := (kd.ext e2).trans kk fun _ _ h => h
        have hp6' : W.heap.size ≤ p6 := hp6
        refine ⟨one_row n2.own, wr1_of a6 (by simp), keepsFrom_of kw (fun k hk o ho => by subst hk; rw [a1] at ho; cases ho; rfl), fun b' hb' => kw.block b' (Nat.lt_of_lt_of_le (hbs b' hb') g2) (h6b b' hb'), n2.ext.trans kk (fun i hi e => by have e' : i = p6 := e; omega), Nat.le_trans g2 e2.size, .inr ⟨rfl, v2, by rw [heap_setCell_eq a6]; rfl, n2.own.keep kk fun g' hg' e => ?_⟩⟩
        have e' : g' = p6 := e
        have := f2 g' hg'
        have : p6 < W1.drew.heap.size := lt_of_heap a1d
        omega
      · have h1 : [(1 : Int)].length = 1 := rfl
        omega
    · rintro D xs W1 hDD rfl ⟨g1, g2, g3⟩ hDK
      rcases g3 with ⟨h0, _⟩ | ⟨_, v', a1, a2⟩
      · exact absurd h0 (by decide)
      have hs := a2.rd.b2s
      (refine nx_at ?_; simp (disch := first | omega | assumption | rfl | (simp only [vcS] <;> omega) | fail) only [↓vcC, slc3_s, ↓ptV_l, ↓vcA, vcB, ↓vcD, vcE, ↓reduceIte, Nat.reduceEqDiff, Nat.reduceAdd, Nat.reduceMul, Nat.reduceLeDiff, Int.reduceLE, Int.reduceLT, Int.reduceEq, Int.reduceToNat, Int.reduceAdd, Int.reduceSub, Int.reduceMul, Int.reduceNeg, reduceCtorEq, Option.bind_some, Option.map_some, List.length_cons, List.length_nil, vcM, List.getElem?_toArray, List.getElem?_cons_zero, List.getElem?_cons_succ, a1, hs])
      (refine nx_at ?_; simp (disch := first | omega | assumption | rfl | (simp only [vcS] <;> omega) | fail) only [↓vcC, slc3_s, ↓ptV_l, ↓vcA, vcB, ↓vcD, vcE, ↓reduceIte, Nat.reduceEqDiff, Nat.reduceAdd, Nat.reduceMul, Nat.reduceLeDiff, Int.reduceLE, Int.reduceLT, Int.reduceEq, Int.reduceToNat, Int.reduceAdd, Int.reduceSub, Int.reduceMul, Int.reduceNeg, reduceCtorEq, Option.bind_some, Option.map_some, List.length_cons, List.length_nil, vcM, List.getElem?_toArray, List.getElem?_cons_zero, List.getElem?_cons_succ])
      refine lvV_cons hDK ?_
      simp (disch := first | omega | assumption | rfl | (simp only [vcS] <;> omega) | fail) only [↓vcC, slc3_s, ↓ptV_l, ↓vcA, vcB, ↓vcD, vcE, ↓reduceIte, Nat.reduceEqDiff, Nat.reduceAdd, Nat.reduceMul, Nat.reduceLeDiff, Int.reduceLE, Int.reduceLT, Int.reduceEq, Int.reduceToNat, Int.reduceAdd, Int.reduceSub, Int.reduceMul, Int.reduceNeg, reduceCtorEq, Option.bind_some, Option.map_some, List.length_cons, List.length_nil, vcM, List.getElem?_toArray, List.getElem?_cons_zero, List.getElem?_cons_succ, Ret_returned]
      have hkD : Keep (fun k => k = D) W1 (W1.putObj D (.deferred none)) := (Keep.refl _ W1).grown (grownBy_putObj' W1 D _) (fun k _ h => by cases h; rfl)
      exact g1.trans hkD fun k hk e => by
        have e' : k = D := e
        have := hEw5.size
        have := hDD
        omega
    · rintro D key pre W1 hDD hS hFF hDK
      exact hFF.elim
end Go.Proofs
namespace Go.Proofs
open Go.Vc
set_option maxRecDepth 10000

def rawS : List Int := [114, 97, 119, 40, 100, 101, 97, 100, 98, 101, 101, 102, 41]
theorem rawS_is : (⟨#[114, 97, 119, 40, 100, 101, 97, 100, 98, 101, 101, 102, 41]⟩ : ByteArray) = strOf rawS := by decide +kernel
theorem rawS_sum : checkF rawS = some [56, 57, 102, 56, 115, 112, 120, 109] := by decide +kernel
theorem awake_ok (w : World) : Calls Tryd.prog 7 #[] w (Ret fun u w' => u = .bool true ∧ Ext w w') := by
  refine calls_of_cfg c7_ok (Nat.le_of_ble_eq_true rfl) ?_
  simp only [argE_nil, argE_cons, Nat.reduceAdd, Nat.zero_add]
  (refine W_at c7_ok ?_; refine ⟨_, rfl, ?_⟩; simp (disch := first | omega | assumption | rfl | (simp only [vcS] <;> omega) | fail) only [↓ptV_l, ↓vcA, vcB, ↓vcD, vcE, ↓reduceIte, Nat.reduceEqDiff, Nat.reduceAdd, Nat.reduceMul, Nat.reduceLeDiff, Int.reduceLE, Int.reduceLT, Int.reduceEq, Int.reduceToNat, Int.reduceAdd, Int.reduceSub, Int.reduceMul, Int.reduceNeg, reduceCtorEq, Option.bind_some, Option.map_some, List.length_cons, List.length_nil, vcM, List.getElem?_toArray, List.getElem?_cons_zero, List.getElem?_cons_succ])
  (refine W_at c7_ok ?_; refine ⟨_, rfl, ?_⟩; simp (disch := first | omega | assumption | rfl | (simp only [vcS] <;> omega) | fail) only [↓ptV_l, ↓vcA, vcB, ↓vcD, vcE, ↓reduceIte, Nat.reduceEqDiff, Nat.reduceAdd, Nat.reduceMul, Nat.reduceLeDiff, Int.reduceLE, Int.reduceLT, Int.reduceEq, Int.reduceToNat, Int.reduceAdd, Int.reduceSub, Int.reduceMul, Int.reduceNeg, reduceCtorEq, Option.bind_some, Option.map_some, List.length_cons, List.length_nil, vcM, List.getElem?_toArray, List.getElem?_cons_zero, List.getElem?_cons_succ, rawS_is])
  refine callV_ret (checksum_ok w rawS (by intro x hx; simp [rawS] at hx; omega) (by decide)) ?_
  rintro _ w1 ⟨rfl, hE1⟩
  rw [rawS_sum, if_neg (by simp)]
  have d1 : strOf ((some [56, 57, 102, 56, 115, 112, 120, 109] : Option (List Int)).getD []) = (⟨#[56, 57, 102, 56, 115, 112, 120, 109]⟩ : ByteArray) := by decide +kernel
  have d2 : strOf [49, 49, 50] = (⟨#[49, 49, 50]⟩ : ByteArray) := by decide +kernel
  have d3 : strOf (hexL [10]) = (⟨#[48, 97]⟩ : ByteArray) := by decide +kernel
  simp (disch := first | omega | assumption | rfl | (simp only [vcS] <;> omega) | fail) only [↓ptV_l, ↓vcA, vcB, ↓vcD, vcE, ↓reduceIte, Nat.reduceEqDiff, Nat.reduceAdd, Nat.reduceMul, Nat.reduceLeDiff, Int.reduceLE, Int.reduceLT, Int.reduceEq, Int.reduceToNat, Int.reduceAdd, Int.reduceSub, Int.reduceMul, Int.reduceNeg, reduceCtorEq, Option.bind_some, Option.map_some, List.length_cons, List.length_nil, vcM, List.getElem?_toArray, List.getElem?_cons_zero, List.getElem?_cons_succ]
  (refine W_at c7_ok ?_; refine ⟨_, rfl, ?_⟩; simp (disch := first | omega | assumption | rfl | (simp only [vcS] <;> omega) | fail) only [↓ptV_l, ↓vcA, vcB, ↓vcD, vcE, ↓reduceIte, Nat.reduceEqDiff, Nat.reduceAdd, Nat.reduceMul, Nat.reduceLeDiff, Int.reduceLE, Int.reduceLT, Int.reduceEq, Int.reduceToNat, Int.reduceAdd, Int.reduceSub, Int.reduceMul, Int.reduceNeg, reduceCtorEq, Option.bind_some, Option.map_some, List.length_cons, List.length_nil, vcM, List.getElem?_toArray, List.getElem?_cons_zero, List.getElem?_cons_succ])
  have hN1 : New w1 (w1.alloc (.cells (bv [0, 0, 1]).toArray 5)) (.slice (some ⟨w1.heap.size, 0, none⟩) 3 3) [0, 0, 1] := New.lit (bs := [0, 0, 1]) (by decide)
  refine callV_ret (base58_aw _ _ hN1.own.rd) ?_
  rintro _ w2 ⟨rfl, hE2⟩
  simp (disch := first | omega | assumption | rfl | (simp only [vcS] <;> omega) | fail) only [↓ptV_l, ↓vcA, vcB, ↓vcD, vcE, ↓reduceIte, Nat.reduceEqDiff, Nat.reduceAdd, Nat.reduceMul, Nat.reduceLeDiff, Int.reduceLE, Int.reduceLT, Int.reduceEq, Int.reduceToNat, Int.reduceAdd, Int.reduceSub, Int.reduceMul, Int.reduceNeg, reduceCtorEq, Option.bind_some, Option.map_some, List.length_cons, List.length_nil, vcM, List.getElem?_toArray, List.getElem?_cons_zero, List.getElem?_cons_succ, d2]
  refine ⟨fun _ => ?_, fun h => absurd d1 h⟩
  have hN2 : New w2 (w2.alloc (.cells (bv [10]).toArray 5)) (.slice (some ⟨w2.heap.size, 0, none⟩) 1 1) [10] := New.lit (bs := [10]) (by decide)
  refine callV_ret (hex_ok _ _ [10] hN2.own.rd (by intro x hx; simp at hx; omega) (by decide)) ?_
  rintro _ w3 ⟨rfl, hE3⟩
  simp (disch := first | omega | assumption | rfl | (simp only [vcS] <;> omega) | fail) only [↓ptV_l, ↓vcA, vcB, ↓vcD, vcE, ↓reduceIte, Nat.reduceEqDiff, Nat.reduceAdd, Nat.reduceMul, Nat.reduceLeDiff, Int.reduceLE, Int.reduceLT, Int.reduceEq, Int.reduceToNat, Int.reduceAdd, Int.reduceSub, Int.reduceMul, Int.reduceNeg, reduceCtorEq, Option.bind_some, Option.map_some, List.length_cons, List.length_nil, vcM, List.getElem?_toArray, List.getElem?_cons_zero, List.getElem?_cons_succ, d3]
  (refine W_at c7_ok ?_; refine ⟨_, rfl, ?_⟩; simp (disch := first | omega | assumption | rfl | (simp only [vcS] <;> omega) | fail) only [↓ptV_l, ↓vcA, vcB, ↓vcD, vcE, ↓reduceIte, Nat.reduceEqDiff, Nat.reduceAdd, Nat.reduceMul, Nat.reduceLeDiff, Int.reduceLE, Int.reduceLT, Int.reduceEq, Int.reduceToNat, Int.reduceAdd, Int.reduceSub, Int.reduceMul, Int.reduceNeg, reduceCtorEq, Option.bind_some, Option.map_some, List.length_cons, List.length_nil, vcM, List.getElem?_toArray, List.getElem?_cons_zero, List.getElem?_cons_succ, Ret_returned])
  exact ((hE1.ext hN1.ext).ext hE2).ext (hN2.ext.ext hE3)
theorem short_ok (w : World) (v : Value) (bs : List Int) (n : Nat) (h : Rd w v bs) :
    Calls Tryd.prog 8 #[v, .int .i64 n] w (Ret fun u w' => (∀ wz, Rd wz v bs → Rd wz u (bs.take n)) ∧ w' = w) := by
  refine calls_of_cfg c8_ok (Nat.le_of_ble_eq_true rfl) ?_
  simp only [argE_nil, argE_cons, Nat.reduceAdd, Nat.zero_add]
  have hlen := h.len
  obtain ⟨⟨q, c, rfl, hc⟩, hm, hr⟩ := h
  (refine W_at c8_ok ?_; refine ⟨_, rfl, ?_⟩; simp (disch := first | omega | assumption | rfl | (simp only [vcS] <;> omega) | fail) only [↓ptV_l, ↓vcA, vcB, ↓vcD, vcE, ↓reduceIte, Nat.reduceEqDiff, Nat.reduceAdd, Nat.reduceMul, Nat.reduceLeDiff, Int.reduceLE, Int.reduceLT, Int.reduceEq, Int.reduceToNat, Int.reduceAdd, Int.reduceSub, Int.reduceMul, Int.reduceNeg, reduceCtorEq, Option.bind_some, Option.map_some, List.length_cons, List.length_nil, vcM, List.getElem?_toArray, List.getElem?_cons_zero, List.getElem?_cons_succ])
  by_cases hn : (bs.length : Int) > (n : Int)
  · have hb : 0 ≤ (n : Int) ∧ (n : Int) ≤ (c : Int) := by omega
    (refine W_at c8_ok ?_; refine ⟨_, rfl, ?_⟩; simp (disch := first | omega | assumption | rfl | (simp only [vcS] <;> omega) | fail) only [↓ptV_l, ↓vcA, vcB, ↓vcD, vcE, ↓reduceIte, Nat.reduceEqDiff, Nat.reduceAdd, Nat.reduceMul, Nat.reduceLeDiff, Int.reduceLE, Int.reduceLT, Int.reduceEq, Int.reduceToNat, Int.reduceAdd, Int.reduceSub, Int.reduceMul, Int.reduceNeg, reduceCtorEq, Option.bind_some, Option.map_some, List.length_cons, List.length_nil, vcM, List.getElem?_toArray, List.getElem?_cons_zero, List.getElem?_cons_succ, hlen, hn])
    (refine W_at c8_ok ?_; refine ⟨_, rfl, ?_⟩; simp (disch := first | omega | assumption | rfl | (simp only [vcS] <;> omega) | fail) only [↓ptV_l, ↓vcA, vcB, ↓vcD, vcE, ↓reduceIte, Nat.reduceEqDiff, Nat.reduceAdd, Nat.reduceMul, Nat.reduceLeDiff, Int.reduceLE, Int.reduceLT, Int.reduceEq, Int.reduceToNat, Int.reduceAdd, Int.reduceSub, Int.reduceMul, Int.reduceNeg, reduceCtorEq, Option.bind_some, Option.map_some, List.length_cons, List.length_nil, vcM, List.getElem?_toArray, List.getElem?_cons_zero, List.getElem?_cons_succ])
    (refine W_at c8_ok ?_; refine ⟨_, rfl, ?_⟩; simp (disch := first | omega | assumption | rfl | (simp only [vcS] <;> omega) | fail) only [↓ptV_l, ↓vcA, vcB, ↓vcD, vcE, ↓reduceIte, Nat.reduceEqDiff, Nat.reduceAdd, Nat.reduceMul, Nat.reduceLeDiff, Int.reduceLE, Int.reduceLT, Int.reduceEq, Int.reduceToNat, Int.reduceAdd, Int.reduceSub, Int.reduceMul, Int.reduceNeg, reduceCtorEq, Option.bind_some, Option.map_some, List.length_cons, List.length_nil, vcM, List.getElem?_toArray, List.getElem?_cons_zero, List.getElem?_cons_succ, hb, Int.toNat_natCast])
    (refine W_at c8_ok ?_; refine ⟨_, rfl, ?_⟩; simp (disch := first | omega | assumption | rfl | (simp only [vcS] <;> omega) | fail) only [↓ptV_l, ↓vcA, vcB, ↓vcD, vcE, ↓reduceIte, Nat.reduceEqDiff, Nat.reduceAdd, Nat.reduceMul, Nat.reduceLeDiff, Int.reduceLE, Int.reduceLT, Int.reduceEq, Int.reduceToNat, Int.reduceAdd, Int.reduceSub, Int.reduceMul, Int.reduceNeg, reduceCtorEq, Option.bind_some, Option.map_some, List.length_cons, List.length_nil, vcM, List.getElem?_toArray, List.getElem?_cons_zero, List.getElem?_cons_succ, Ret_returned])
    exact fun wz hz => by
      have := hz.cut (l := 0) (j := n) (Nat.zero_le _) (by omega)
      rwa [List.drop_zero, Nat.sub_zero, Nat.sub_zero, advA_0] at this
  · (refine W_at c8_ok ?_; refine ⟨_, rfl, ?_⟩; simp (disch := first | omega | assumption | rfl | (simp only [vcS] <;> omega) | fail) only [↓ptV_l, ↓vcA, vcB, ↓vcD, vcE, ↓reduceIte, Nat.reduceEqDiff, Nat.reduceAdd, Nat.reduceMul, Nat.reduceLeDiff, Int.reduceLE, Int.reduceLT, Int.reduceEq, Int.reduceToNat, Int.reduceAdd, Int.reduceSub, Int.reduceMul, Int.reduceNeg, reduceCtorEq, Option.bind_some, Option.map_some, List.length_cons, List.length_nil, vcM, List.getElem?_toArray, List.getElem?_cons_zero, List.getElem?_cons_succ, hlen, hn])
    (refine W_at c8_ok ?_; refine ⟨_, rfl, ?_⟩; simp (disch := first | omega | assumption | rfl | (simp only [vcS] <;> omega) | fail) only [↓ptV_l, ↓vcA, vcB, ↓vcD, vcE, ↓reduceIte, Nat.reduceEqDiff, Nat.reduceAdd, Nat.reduceMul, Nat.reduceLeDiff, Int.reduceLE, Int.reduceLT, Int.reduceEq, Int.reduceToNat, Int.reduceAdd, Int.reduceSub, Int.reduceMul, Int.reduceNeg, reduceCtorEq, Option.bind_some, Option.map_some, List.length_cons, List.length_nil, vcM, List.getElem?_toArray, List.getElem?_cons_zero, List.getElem?_cons_succ])
    (refine W_at c8_ok ?_; refine ⟨_, rfl, ?_⟩; simp (disch := first | omega | assumption | rfl | (simp only [vcS] <;> omega) | fail) only [↓ptV_l, ↓vcA, vcB, ↓vcD, vcE, ↓reduceIte, Nat.reduceEqDiff, Nat.reduceAdd, Nat.reduceMul, Nat.reduceLeDiff, Int.reduceLE, Int.reduceLT, Int.reduceEq, Int.reduceToNat, Int.reduceAdd, Int.reduceSub, Int.reduceMul, Int.reduceNeg, reduceCtorEq, Option.bind_some, Option.map_some, List.length_cons, List.length_nil, vcM, List.getElem?_toArray, List.getElem?_cons_zero, List.getElem?_cons_succ])
    (refine W_at c8_ok ?_; refine ⟨_, rfl, ?_⟩; simp (disch := first | omega | assumption | rfl | (simp only [vcS] <;> omega) | fail) only [↓ptV_l, ↓vcA, vcB, ↓vcD, vcE, ↓reduceIte, Nat.reduceEqDiff, Nat.reduceAdd, Nat.reduceMul, Nat.reduceLeDiff, Int.reduceLE, Int.reduceLT, Int.reduceEq, Int.reduceToNat, Int.reduceAdd, Int.reduceSub, Int.reduceMul, Int.reduceNeg, reduceCtorEq, Option.bind_some, Option.map_some, List.length_cons, List.length_nil, vcM, List.getElem?_toArray, List.getElem?_cons_zero, List.getElem?_cons_succ, Ret_returned])
    exact fun wz hz => by rw [List.take_of_length_le (by omega)]; exact hz
end Go.Proofs
namespace Go.Proofs
open Go.Vc
set_option maxRecDepth 10000

/-! ### A step, in parts -/
theorem mix_xor : ∀ (g : List (BitVec 64)) (j : Nat) (b c : BitVec 64), mixF g j b c = c ^^^ mixF g j b 0#64
  | [], _, _, c => by simp [mixF]
  | x :: g, j, b, c => by
    simp only [mixF]
    rw [mix_xor g (j + 1) b (if (b >>> j) &&& 1#64 = 1#64 then c ^^^ x else c), mix_xor g (j + 1) b (if (b >>> j) &&& 1#64 = 1#64 then 0#64 ^^^ x else 0#64)]
    split
    · simp [BitVec.xor_assoc]
    · simp
theorem lt32 {b : BitVec 64} (h : b.toNat < 32) : ∃ n : Fin 32, b = BitVec.ofNat 64 n.val := ⟨⟨b.toNat, h⟩, by simp⟩
theorem b64_lt {v : Int} (h : 0 ≤ v ∧ v < 32) : (b64 v).toNat < 32 := by
  rw [b64, BitVec.toNat_ofNat]
  omega
theorem xor_lt {a b : BitVec 64} {n : Nat} (ha : a.toNat < 2 ^ n) (hb : b.toNat < 2 ^ n) : (a ^^^ b).toNat < 2 ^ n := by
  rw [BitVec.toNat_xor]
  exact Nat.xor_lt_two_pow ha hb
end Go.Proofs
namespace Go.Proofs
open Go.Vc
set_option maxRecDepth 10000

/-! ### The letters tell the value -/
theorem letters_b (c : BitVec 64) (n : Nat) : ∀ x ∈ lettersF c n, 0 ≤ x ∧ x ≤ 31 := fun x hx => by
  obtain ⟨j, _, rfl⟩ := List.mem_map.1 hx
  have := and31_lt (c >>> (5 * (n - 1 - j)))
  omega
end Go.Proofs
namespace Go.Proofs
open Go.Vc
set_option maxRecDepth 10000

theorem U64_mul32 (y : BitVec 64) : binR .mul (U64 y) (.int .u64 32) = some (U64 (y * 32#64)) := U64_mul y 32#64
theorem U64_quo2 (y : BitVec 64) : binR .quo (U64 y) (.int .u64 2) = some (U64 (y / 2#64)) := U64_quo y 2#64 (by decide)
theorem U64_rem2 (y : BitVec 64) : binR .rem (U64 y) (.int .u64 2) = some (U64 (y % 2#64)) := U64_rem y 2#64 (by decide)
theorem U64_rem32 (y : BitVec 64) : binR .rem (U64 y) (.int .u64 32) = some (U64 (y % 32#64)) := U64_rem y 32#64 (by decide)
theorem half_is (y : BitVec 64) (j : Nat) : (y >>> j) / 2#64 = y >>> (j + 1) := by
  apply BitVec.eq_of_toNat_eq
  rw [BitVec.toNat_udiv, BitVec.toNat_ushiftRight, BitVec.toNat_ushiftRight, Nat.shiftRight_add]
  have e2 : (2#64).toNat = 2 := by decide
  rw [e2, Nat.shiftRight_eq_div_pow _ 1]
theorem odd_is (y : BitVec 64) : (y % 2#64 = 1#64) ↔ (y &&& 1#64 = 1#64) := by
  have e : y % 2#64 = y &&& 1#64 := by
    apply BitVec.eq_of_toNat_eq
    rw [BitVec.toNat_umod, BitVec.toNat_and]
    exact (Nat.and_two_pow_sub_one_eq_mod _ 1).symm
  rw [e]
theorem u64_int {v : Int} (h : 0 ≤ v ∧ v < 256) : Value.int .u64 (IntKind.u64.wrap v) = U64 (b64 v) := u64_byte (by omega)
end Go.Proofs
namespace Go.Proofs
open Go.Vc
set_option maxRecDepth 10000

theorem idxS_U (s : ByteArray) (y : BitVec 64) : idxSR (.string s) (U64 y) = (s[y.toNat]?).map fun b => .int .u8 b.toNat := by simp [U64, idxSR]
theorem rem32_is (y : BitVec 64) : (y % 32#64).toNat = (y &&& 31#64).toNat := by
  rw [BitVec.toNat_umod, BitVec.toNat_and]
  exact (Nat.and_two_pow_sub_one_eq_mod _ 5).symm
theorem concat_fits {a b : List Int} (h : a.length + b.length ≤ 1000000) : ((((strOf a).size + (strOf b).size : Nat) : Int) > IntKind.i64.max) = False := by
  rw [str_size, str_size]
  refine eq_false ?_
  show ¬ ((a.length + b.length : Nat) : Int) > 9223372036854775807
  omega
end Go.Proofs
namespace Go.Proofs
open Go.Vc
set_option maxRecDepth 10000

/-- What the document asks for: other groups; none: they can't be. -/
def fits (n : Nat) (l : List Int) : Prop := ∀ v ∈ l, v < 2 ^ n
instance (n : Nat) (l : List Int) : Decidable (fits n l) := inferInstanceAs (Decidable (∀ v ∈ l, v < 2 ^ n))
/-! ### The model's arithmetic, at what is used here -/
end Go.Proofs
namespace Go.Proofs
open Go.Vc
set_option maxRecDepth 10000

theorem cut_hi {w : World} {q : Option Addr} {n c j : Nat} {bs : List Int} (h : Rd w (.slice q n c) bs) (hj : j ≤ bs.length) : Rd w (.slice q j c) (bs.take j) := by
  obtain ⟨⟨q', c', e, hc⟩, _, _⟩ := id h
  injection e with e1 e2 e3
  subst e2
  have := h.cut (l := 0) (j := j) (Nat.zero_le _) hj
  rw [List.drop_zero, advA_0] at this
  exact this
theorem in_rd {wz : World} {g0 : Nat} {l : List Int} (h : Own1 wz (.slice (some ⟨g0, 0, none⟩) (l.length + 9) (l.length + 9)) (spareF l)) : Rd wz (.slice (some ⟨g0, 0, none⟩) l.length (l.length + 9)) l := by
  have h1 := cut_hi h.rd (j := l.length) (by rw [spareF_len]; omega)
  have h2 : (spareF l).take l.length = l := by rw [spareF, List.take_left' rfl]
  rw [h2] at h1
  exact h1
end Go.Proofs
namespace Go.Proofs
open Go.Vc
set_option maxRecDepth 10000

def bechG : List (BitVec 64) := [0x3b6a57b2#64, 0x26508e6d#64, 0x1ea119fa#64, 0x3d4233dd#64, 0x2a1462b3#64]
theorem bech_ok (w : World) : Calls Tryd.prog 26 #[] w (Ret fun u w' => u = .agg (codeC 25 bechG) ∧ Ext w w') := by
  refine calls_of_cfg c26_ok (Nat.le_of_ble_eq_true rfl) ?_
  simp only [argE_nil, argE_cons, Nat.reduceAdd, Nat.zero_add]
  have e : #[Value.int .i64 25] ++ (#[Value.int .u64 996825010] ++ (#[Value.int .u64 642813549] ++ (#[Value.int .u64 513874426] ++ #[Value.int .u64 1027748829, Value.int .u64 705979059])) : Array Value) = codeC 25 bechG := by kernel_rfl
  have h5 : (#[Value.int .u64 996825010] ++ (#[Value.int .u64 642813549] ++ (#[Value.int .u64 513874426] ++ #[Value.int .u64 1027748829, Value.int .u64 705979059])) : Array Value).size = 5 := rfl
  have h6 := codeC_size 25 (g := bechG) rfl
  have hf := codeC_flat 25 bechG
  have hz : (zc [(1, Value.int .i64 0), (5, .int .u64 0)]).size = 6 := by simp [size_zc]
  (refine W_at c26_ok ?_; refine ⟨_, rfl, ?_⟩; simp (disch := first | omega | assumption | rfl | (simp only [vcS] <;> omega) | fail) only [↓ptV_l, ↓vcA, vcB, ↓vcD, vcE, ↓reduceIte, Nat.reduceEqDiff, Nat.reduceAdd, Nat.reduceMul, Nat.reduceLeDiff, Int.reduceLE, Int.reduceLT, Int.reduceEq, Int.reduceToNat, Int.reduceAdd, Int.reduceSub, Int.reduceMul, Int.reduceNeg, reduceCtorEq, Option.bind_some, Option.map_some, List.length_cons, List.length_nil, vcM, List.getElem?_toArray, List.getElem?_cons_zero, List.getElem?_cons_succ])
  (refine W_at c26_ok ?_; refine ⟨_, rfl, ?_⟩; simp (disch := first | omega | assumption | rfl | (simp only [vcS] <;> omega) | fail) only [↓ptV_l, ↓vcA, vcB, ↓vcD, vcE, ↓reduceIte, Nat.reduceEqDiff, Nat.reduceAdd, Nat.reduceMul, Nat.reduceLeDiff, Int.reduceLE, Int.reduceLT, Int.reduceEq, Int.reduceToNat, Int.reduceAdd, Int.reduceSub, Int.reduceMul, Int.reduceNeg, reduceCtorEq, Option.bind_some, Option.map_some, List.length_cons, List.length_nil, vcM, List.getElem?_toArray, List.getElem?_cons_zero, List.getElem?_cons_succ, hz, h5, e, h6])
  refine ⟨hf, ?_⟩
  have hE : Ext w ((w.alloc (.cells (zc [(1, Value.int .i64 0), (5, .int .u64 0)]) 55)).putN w.heap.size 0 (codeC 25 bechG)) := by (repeat' first | exact Keep.refl _ _ | assumption | refine Keep.drew ?_ | refine Keep.alloc ?_ _ | refine Keep.putN ?_ _ ?_ | refine Keep.setCell ?_ _ ?_ | refine Keep.setO ?_ _ ?_ | exact fun _ => Or.inl rfl | exact fun _ => Or.inr rfl | exact fun _ => rfl | (intro hh; exfalso; ((try simp only [vcS] at hh) <;> omega)))
  have hp : ((w.alloc (.cells (zc [(1, Value.int .i64 0), (5, .int .u64 0)]) 55)).putN w.heap.size 0 (codeC 25 bechG)).heap[w.heap.size]? = some (.cells (codeC 25 bechG) 55 (0, 0)) := by
    rw [heap_putN_eq (heap_new _ _ _ rfl), splice_all (by rw [h6, hz])]
  generalize World.putN _ _ _ _ = w1 at hE hp ⊢
  (refine W_at c26_ok ?_; refine ⟨_, rfl, ?_⟩; simp (disch := first | omega | assumption | rfl | (simp only [vcS] <;> omega) | fail) only [↓ptV_l, ↓vcA, vcB, ↓vcD, vcE, ↓reduceIte, Nat.reduceEqDiff, Nat.reduceAdd, Nat.reduceMul, Nat.reduceLeDiff, Int.reduceLE, Int.reduceLT, Int.reduceEq, Int.reduceToNat, Int.reduceAdd, Int.reduceSub, Int.reduceMul, Int.reduceNeg, reduceCtorEq, Option.bind_some, Option.map_some, List.length_cons, List.length_nil, vcM, List.getElem?_toArray, List.getElem?_cons_zero, List.getElem?_cons_succ, hp, h6, ext_all, Ret_returned])
  exact hE
def constB (m : Bool) : BitVec 64 := if m then 0x2bc830a3#64 else 1#64
theorem constant_ok (w : World) (m : Bool) : Calls Tryd.prog 28 #[.bool m] w (Ret fun u w' => u = U64 (constB m) ∧ w' = w) := by
  refine calls_of_cfg c28_ok (Nat.le_of_ble_eq_true rfl) ?_
  simp only [argE_nil, argE_cons, Nat.reduceAdd, Nat.zero_add]
  have e1 : Value.int .u64 734539939 = U64 (constB true) := rfl
  have e2 : Value.int .u64 1 = U64 (constB false) := rfl
  cases m with
  | true =>
    (refine W_at c28_ok ?_; refine ⟨_, rfl, ?_⟩; simp (disch := first | omega | assumption | rfl | (simp only [vcS] <;> omega) | fail) only [↓ptV_l, ↓vcA, vcB, ↓vcD, vcE, ↓reduceIte, Nat.reduceEqDiff, Nat.reduceAdd, Nat.reduceMul, Nat.reduceLeDiff, Int.reduceLE, Int.reduceLT, Int.reduceEq, Int.reduceToNat, Int.reduceAdd, Int.reduceSub, Int.reduceMul, Int.reduceNeg, reduceCtorEq, Option.bind_some, Option.map_some, List.length_cons, List.length_nil, vcM, List.getElem?_toArray, List.getElem?_cons_zero, List.getElem?_cons_succ])
    (refine W_at c28_ok ?_; refine ⟨_, rfl, ?_⟩; simp (disch := first | omega | assumption | rfl | (simp only [vcS] <;> omega) | fail) only [↓ptV_l, ↓vcA, vcB, ↓vcD, vcE, ↓reduceIte, Nat.reduceEqDiff, Nat.reduceAdd, Nat.reduceMul, Nat.reduceLeDiff, Int.reduceLE, Int.reduceLT, Int.reduceEq, Int.reduceToNat, Int.reduceAdd, Int.reduceSub, Int.reduceMul, Int.reduceNeg, reduceCtorEq, Option.bind_some, Option.map_some, List.length_cons, List.length_nil, vcM, List.getElem?_toArray, List.getElem?_cons_zero, List.getElem?_cons_succ])
    (refine W_at c28_ok ?_; refine ⟨_, rfl, ?_⟩; simp (disch := first | omega | assumption | rfl | (simp only [vcS] <;> omega) | fail) only [↓ptV_l, ↓vcA, vcB, ↓vcD, vcE, ↓reduceIte, Nat.reduceEqDiff, Nat.reduceAdd, Nat.reduceMul, Nat.reduceLeDiff, Int.reduceLE, Int.reduceLT, Int.reduceEq, Int.reduceToNat, Int.reduceAdd, Int.reduceSub, Int.reduceMul, Int.reduceNeg, reduceCtorEq, Option.bind_some, Option.map_some, List.length_cons, List.length_nil, vcM, List.getElem?_toArray, List.getElem?_cons_zero, List.getElem?_cons_succ])
    (refine W_at c28_ok ?_; refine ⟨_, rfl, ?_⟩; simp (disch := first | omega | assumption | rfl | (simp only [vcS] <;> omega) | fail) only [↓ptV_l, ↓vcA, vcB, ↓vcD, vcE, ↓reduceIte, Nat.reduceEqDiff, Nat.reduceAdd, Nat.reduceMul, Nat.reduceLeDiff, Int.reduceLE, Int.reduceLT, Int.reduceEq, Int.reduceToNat, Int.reduceAdd, Int.reduceSub, Int.reduceMul, Int.reduceNeg, reduceCtorEq, Option.bind_some, Option.map_some, List.length_cons, List.length_nil, vcM, List.getElem?_toArray, List.getElem?_cons_zero, List.getElem?_cons_succ, e1])
    (refine W_at c28_ok ?_; refine ⟨_, rfl, ?_⟩; simp (disch := first | omega | assumption | rfl | (simp only [vcS] <;> omega) | fail) only [↓ptV_l, ↓vcA, vcB, ↓vcD, vcE, ↓reduceIte, Nat.reduceEqDiff, Nat.reduceAdd, Nat.reduceMul, Nat.reduceLeDiff, Int.reduceLE, Int.reduceLT, Int.reduceEq, Int.reduceToNat, Int.reduceAdd, Int.reduceSub, Int.reduceMul, Int.reduceNeg, reduceCtorEq, Option.bind_some, Option.map_some, List.length_cons, List.length_nil, vcM, List.getElem?_toArray, List.getElem?_cons_zero, List.getElem?_cons_succ, Ret_returned])
    first | rfl | skip
  | false =>
    (refine W_at c28_ok ?_; refine ⟨_, rfl, ?_⟩; simp (disch := first | omega | assumption | rfl | (simp only [vcS] <;> omega) | fail) only [↓ptV_l, ↓vcA, vcB, ↓vcD, vcE, ↓reduceIte, Nat.reduceEqDiff, Nat.reduceAdd, Nat.reduceMul, Nat.reduceLeDiff, Int.reduceLE, Int.reduceLT, Int.reduceEq, Int.reduceToNat, Int.reduceAdd, Int.reduceSub, Int.reduceMul, Int.reduceNeg, reduceCtorEq, Option.bind_some, Option.map_some, List.length_cons, List.length_nil, vcM, List.getElem?_toArray, List.getElem?_cons_zero, List.getElem?_cons_succ])
    (refine W_at c28_ok ?_; refine ⟨_, rfl, ?_⟩; simp (disch := first | omega | assumption | rfl | (simp only [vcS] <;> omega) | fail) only [↓ptV_l, ↓vcA, vcB, ↓vcD, vcE, ↓reduceIte, Nat.reduceEqDiff, Nat.reduceAdd, Nat.reduceMul, Nat.reduceLeDiff, Int.reduceLE, Int.reduceLT, Int.reduceEq, Int.reduceToNat, Int.reduceAdd, Int.reduceSub, Int.reduceMul, Int.reduceNeg, reduceCtorEq, Option.bind_some, Option.map_some, List.length_cons, List.length_nil, vcM, List.getElem?_toArray, List.getElem?_cons_zero, List.getElem?_cons_succ])
    (refine W_at c28_ok ?_; refine ⟨_, rfl, ?_⟩; simp (disch := first | omega | assumption | rfl | (simp only [vcS] <;> omega) | fail) only [↓ptV_l, ↓vcA, vcB, ↓vcD, vcE, ↓reduceIte, Nat.reduceEqDiff, Nat.reduceAdd, Nat.reduceMul, Nat.reduceLeDiff, Int.reduceLE, Int.reduceLT, Int.reduceEq, Int.reduceToNat, Int.reduceAdd, Int.reduceSub, Int.reduceMul, Int.reduceNeg, reduceCtorEq, Option.bind_some, Option.map_some, List.length_cons, List.length_nil, vcM, List.getElem?_toArray, List.getElem?_cons_zero, List.getElem?_cons_succ])
    (refine W_at c28_ok ?_; refine ⟨_, rfl, ?_⟩; simp (disch := first | omega | assumption | rfl | (simp only [vcS] <;> omega) | fail) only [↓ptV_l, ↓vcA, vcB, ↓vcD, vcE, ↓reduceIte, Nat.reduceEqDiff, Nat.reduceAdd, Nat.reduceMul, Nat.reduceLeDiff, Int.reduceLE, Int.reduceLT, Int.reduceEq, Int.reduceToNat, Int.reduceAdd, Int.reduceSub, Int.reduceMul, Int.reduceNeg, reduceCtorEq, Option.bind_some, Option.map_some, List.length_cons, List.length_nil, vcM, List.getElem?_toArray, List.getElem?_cons_zero, List.getElem?_cons_succ, e2])
    (refine W_at c28_ok ?_; refine ⟨_, rfl, ?_⟩; simp (disch := first | omega | assumption | rfl | (simp only [vcS] <;> omega) | fail) only [↓ptV_l, ↓vcA, vcB, ↓vcD, vcE, ↓reduceIte, Nat.reduceEqDiff, Nat.reduceAdd, Nat.reduceMul, Nat.reduceLeDiff, Int.reduceLE, Int.reduceLT, Int.reduceEq, Int.reduceToNat, Int.reduceAdd, Int.reduceSub, Int.reduceMul, Int.reduceNeg, reduceCtorEq, Option.bind_some, Option.map_some, List.length_cons, List.length_nil, vcM, List.getElem?_toArray, List.getElem?_cons_zero, List.getElem?_cons_succ, Ret_returned])
    first | rfl | skip
def spreadF (h : List Int) : List Int := h.map (· / 32) ++ 0 :: h.map (· % 32)
theorem hi_b {l : List Int} (h : byt l) : byt (l.map (· / 32)) := fun x hx => by
  obtain ⟨y, hy, rfl⟩ := List.mem_map.1 hx
  have := h y hy; show 0 ≤ y / 32 ∧ y / 32 ≤ 255; omega
theorem lo_b {l : List Int} : byt (l.map (· % 32)) := fun x hx => by
  obtain ⟨y, hy, rfl⟩ := List.mem_map.1 hx
  show 0 ≤ y % 32 ∧ y % 32 ≤ 255; omega
theorem shr5_u8 (x : Int) : x.fdiv (2 ^ Nat.min 5 IntKind.u8.bits) = x / 32 := by
  have e : (2 : Int) ^ Nat.min 5 IntKind.u8.bits = 32 := by decide
  rw [e, Int.fdiv_eq_ediv_of_nonneg _ (by decide)]
theorem and31_u8 {x : Int} (h : 0 ≤ x ∧ x ≤ 255) : IntKind.u8.wrap (((BitVec.ofInt IntKind.u8.bits x &&& BitVec.ofInt IntKind.u8.bits 31).toNat : Nat) : Int) = x % 32 := by
  obtain ⟨n, rfl⟩ : ∃ n : Nat, x = (n : Int) := ⟨x.toNat, by omega⟩
  have hd : ∀ n : Fin 256, IntKind.u8.wrap (((BitVec.ofInt IntKind.u8.bits ((n.val : Nat) : Int) &&& BitVec.ofInt IntKind.u8.bits 31).toNat : Nat) : Int) = ((n.val : Nat) : Int) % 32 := by decide +kernel
  exact hd ⟨n, by omega⟩
theorem lit_rd (w : World) (x : Int) : Rd (w.alloc (.cells (bv [x]).toArray 5)) (.slice (some ⟨w.heap.size, 0, none⟩) 1 1) [x] := (own_lit1 (bs := [x]) (by simp [maxLen])).rd
theorem lit_rd1 (w : World) (o : Obj) (x : Int) : Rd ((w.alloc o).alloc (.cells (bv [x]).toArray 5)) (.slice (some ⟨w.heap.size + 1, 0, none⟩) 1 1) [x] := by
  have h := lit_rd (w.alloc o) x
  have e : (w.alloc o).heap.size = w.heap.size + 1 := Array.size_push ..
  rw [e] at h
  exact h
theorem app_two {w wj w1 : World} {v1 v2 : Value} {A B : List Int} {x y : Int} {p q : Nat} {K : Value → Value → World → Prop} (hV : New w wj v1 A) (hG : New w wj v2 B) (hdis : ∀ g, blk v1 g → ¬ blk v2 g) (hE : Ext wj w1)
    (hp : wj.heap.size ≤ p) (hq : wj.heap.size ≤ q) (ha : Rd w1 (.slice (some ⟨p, 0, none⟩) 1 1) [x]) (hb : Rd w1 (.slice (some ⟨q, 0, none⟩) 1 1) [y]) (l1 : A.length ≤ 100000) (l2 : B.length ≤ 100000)
    (hk : ∀ v3 v4 w3, New w w3 v3 (A ++ [x]) → New w w3 v4 (B ++ [y]) → (∀ g, blk v3 g → ¬ blk v4 g) → K v3 v4 w3) :
    appV 5 1 1 [.int .u8 0] v1 (.slice (some ⟨p, 0, none⟩) 1 1) w1 fun v w' => appV 5 1 1 [.int .u8 0] v2 (.slice (some ⟨q, 0, none⟩) 1 1) w' fun v_1 w' => K v v_1 w' := by
  refine appN (news := [x]) (hV.keep hE) ha (by simp only [List.length_cons, List.length_nil]; omega) fun v3 w3 n3 k3 f3 => ?_
  have hG1 : New w w3 v2 B := ⟨(hG.own.ext hE).keep k3 fun g h1 h2 => hdis g h2 h1, n3.ext, hG.new⟩
  have hb1 : Rd w3 (.slice (some ⟨q, 0, none⟩) 1 1) [y] := hb.keep k3 fun a _ _ e h => by
    cases e
    have := hV.own.lt (g := q) h
    omega
  refine appN (news := [y]) hG1 hb1 (by simp only [List.length_cons, List.length_nil]; omega) fun v4 w4 n4 k4 f4 => ?_
  have hdis1 : ∀ g, blk v3 g → ¬ blk v2 g := fun g h1 h2 => by
    rcases f3 g h1 with h | h
    · exact hdis g h h2
    · have := (hG.own.ext hE).lt h2; omega
  refine hk v3 v4 w4 ⟨n3.own.keep k4 fun g h1 h2 => hdis1 g h1 h2, n4.ext, n3.new⟩ n4 fun g h1 h2 => ?_
  rcases f4 g h2 with h | h
  · exact hdis1 g h1 h
  · have := n3.own.lt h1; omega
theorem spread_ok (w : World) (hs : List Int) (hb : byt hs) (hl : hs.length ≤ 100000) :
    Calls Tryd.prog 24 #[.string (strOf hs)] w (Ret fun u w' => New w w' u (spreadF hs)) := by
  refine calls_of_cfg c24_ok (Nat.le_of_ble_eq_true rfl) ?_
  simp only [argE_nil, argE_cons, Nat.reduceAdd, Nat.zero_add]
  have hsz := str_size hs
  (refine W_at c24_ok ?_; refine ⟨_, rfl, ?_⟩; simp (disch := first | omega | assumption | rfl | (simp only [vcS] <;> omega) | fail) only [↓ptV_l, ↓vcA, vcB, ↓vcD, vcE, ↓reduceIte, Nat.reduceEqDiff, Nat.reduceAdd, Nat.reduceMul, Nat.reduceLeDiff, Int.reduceLE, Int.reduceLT, Int.reduceEq, Int.reduceToNat, Int.reduceAdd, Int.reduceSub, Int.reduceMul, Int.reduceNeg, reduceCtorEq, Option.bind_some, Option.map_some, List.length_cons, List.length_nil, vcM, List.getElem?_toArray, List.getElem?_cons_zero, List.getElem?_cons_succ])
  (refine W_at c24_ok ?_; refine ⟨_, rfl, ?_⟩; simp (disch := first | omega | assumption | rfl | (simp only [vcS] <;> omega) | fail) only [↓ptV_l, ↓vcA, vcB, ↓vcD, vcE, ↓reduceIte, Nat.reduceEqDiff, Nat.reduceAdd, Nat.reduceMul, Nat.reduceLeDiff, Int.reduceLE, Int.reduceLT, Int.reduceEq, Int.reduceToNat, Int.reduceAdd, Int.reduceSub, Int.reduceMul, Int.reduceNeg, reduceCtorEq, Option.bind_some, Option.map_some, List.length_cons, List.length_nil, vcM, List.getElem?_toArray, List.getElem?_cons_zero, List.getElem?_cons_succ])
  (refine W_at c24_ok ?_; refine ⟨_, rfl, ?_⟩; simp (disch := first | omega | assumption | rfl | (simp only [vcS] <;> omega) | fail) only [↓ptV_l, ↓vcA, vcB, ↓vcD, vcE, ↓reduceIte, Nat.reduceEqDiff, Nat.reduceAdd, Nat.reduceMul, Nat.reduceLeDiff, Int.reduceLE, Int.reduceLT, Int.reduceEq, Int.reduceToNat, Int.reduceAdd, Int.reduceSub, Int.reduceMul, Int.reduceNeg, reduceCtorEq, Option.bind_some, Option.map_some, List.length_cons, List.length_nil, vcM, List.getElem?_toArray, List.getElem?_cons_zero, List.getElem?_cons_succ, hsz])
  have L : ∀ (k i : Nat) (wj : World) (v1 v2 : Value) (tl : Env), k + i = hs.length → New w wj v1 ((hs.take i).map (· / 32)) → New w wj v2 ((hs.take i).map (· % 32)) → (∀ g, blk v1 g → ¬ blk v2 g) →
      W Tryd.prog (Ret fun u w' => New w w' u (spreadF hs)) 24 8 ((0, .string (strOf hs)) :: (3, v1) :: (4, v2) :: (7, .int .i64 hs.length) :: (8, .int .i64 i) :: tl) wj := by
    intro k
    induction k with
    | zero =>
      intro i wj v1 v2 tl hi hV hG hdis
      have hil : ¬ ((i : Int) < (hs.length : Int)) := by omega
      rw [List.take_of_length_le (by omega)] at hV hG
      (refine W_at c24_ok ?_; refine ⟨_, rfl, ?_⟩; simp (disch := first | omega | assumption | rfl | (simp only [vcS] <;> omega) | fail) only [↓ptV_l, ↓vcA, vcB, ↓vcD, vcE, ↓reduceIte, Nat.reduceEqDiff, Nat.reduceAdd, Nat.reduceMul, Nat.reduceLeDiff, Int.reduceLE, Int.reduceLT, Int.reduceEq, Int.reduceToNat, Int.reduceAdd, Int.reduceSub, Int.reduceMul, Int.reduceNeg, reduceCtorEq, Option.bind_some, Option.map_some, List.length_cons, List.length_nil, vcM, List.getElem?_toArray, List.getElem?_cons_zero, List.getElem?_cons_succ, hil])
      (refine W_at c24_ok ?_; refine ⟨_, rfl, ?_⟩; simp (disch := first | omega | assumption | rfl | (simp only [vcS] <;> omega) | fail) only [↓ptV_l, ↓vcA, vcB, ↓vcD, vcE, ↓reduceIte, Nat.reduceEqDiff, Nat.reduceAdd, Nat.reduceMul, Nat.reduceLeDiff, Int.reduceLE, Int.reduceLT, Int.reduceEq, Int.reduceToNat, Int.reduceAdd, Int.reduceSub, Int.reduceMul, Int.reduceNeg, reduceCtorEq, Option.bind_some, Option.map_some, List.length_cons, List.length_nil, vcM, List.getElem?_toArray, List.getElem?_cons_zero, List.getElem?_cons_succ])
      (refine W_at c24_ok ?_; refine ⟨_, rfl, ?_⟩; simp (disch := first | omega | assumption | rfl | (simp only [vcS] <;> omega) | fail) only [↓ptV_l, ↓vcA, vcB, ↓vcD, vcE, ↓reduceIte, Nat.reduceEqDiff, Nat.reduceAdd, Nat.reduceMul, Nat.reduceLeDiff, Int.reduceLE, Int.reduceLT, Int.reduceEq, Int.reduceToNat, Int.reduceAdd, Int.reduceSub, Int.reduceMul, Int.reduceNeg, reduceCtorEq, Option.bind_some, Option.map_some, List.length_cons, List.length_nil, vcM, List.getElem?_toArray, List.getElem?_cons_zero, List.getElem?_cons_succ])
      refine appNL (news := [0]) hV (by simp; omega) fun v' w' n1 k1 f1 => ?_
      have hG1 : New w w' v2 (hs.map (· % 32)) := ⟨hG.own.keep k1 fun g h1 h2 => hdis g h2 h1, n1.ext, hG.new⟩
      first | (simp (disch := first | omega | assumption | rfl | (simp only [vcS] <;> omega) | fail) only [↓ptV_l, ↓vcA, vcB, ↓vcD, vcE, ↓reduceIte, Nat.reduceEqDiff, Nat.reduceAdd, Nat.reduceMul, Nat.reduceLeDiff, Int.reduceLE, Int.reduceLT, Int.reduceEq, Int.reduceToNat, Int.reduceAdd, Int.reduceSub, Int.reduceMul, Int.reduceNeg, reduceCtorEq, Option.bind_some, Option.map_some, List.length_cons, List.length_nil, vcM, List.getElem?_toArray, List.getElem?_cons_zero, List.getElem?_cons_succ]) | skip
      refine appN n1 hG1.own.rd (by simp; omega) fun v3 w3 n3 k3 _ => ?_
      first | (simp (disch := first | omega | assumption | rfl | (simp only [vcS] <;> omega) | fail) only [↓ptV_l, ↓vcA, vcB, ↓vcD, vcE, ↓reduceIte, Nat.reduceEqDiff, Nat.reduceAdd, Nat.reduceMul, Nat.reduceLeDiff, Int.reduceLE, Int.reduceLT, Int.reduceEq, Int.reduceToNat, Int.reduceAdd, Int.reduceSub, Int.reduceMul, Int.reduceNeg, reduceCtorEq, Option.bind_some, Option.map_some, List.length_cons, List.length_nil, vcM, List.getElem?_toArray, List.getElem?_cons_zero, List.getElem?_cons_succ]) | skip
      (refine W_at c24_ok ?_; refine ⟨_, rfl, ?_⟩; simp (disch := first | omega | assumption | rfl | (simp only [vcS] <;> omega) | fail) only [↓ptV_l, ↓vcA, vcB, ↓vcD, vcE, ↓reduceIte, Nat.reduceEqDiff, Nat.reduceAdd, Nat.reduceMul, Nat.reduceLeDiff, Int.reduceLE, Int.reduceLT, Int.reduceEq, Int.reduceToNat, Int.reduceAdd, Int.reduceSub, Int.reduceMul, Int.reduceNeg, reduceCtorEq, Option.bind_some, Option.map_some, List.length_cons, List.length_nil, vcM, List.getElem?_toArray, List.getElem?_cons_zero, List.getElem?_cons_succ, Ret_returned])
      have e : hs.map (· / 32) ++ [0] ++ hs.map (· % 32) = spreadF hs := by simp [spreadF]
      rw [← e]; exact n3
    | succ k ih =>
      intro i wj v1 v2 tl hi hV hG hdis
      have hil : (i : Int) < (hs.length : Int) := by omega
      have h0 : 0 ≤ (i : Int) := by omega
      have hwi : IntKind.i64.wrap ((i : Int) + 1) = ((i + 1 : Nat) : Int) := wrap_i64 (by omega) (by omega)
      have g1 := str_get (bs := hs) (i := i) (by omega)
      have b1 := hb hs[i] (List.getElem_mem _)
      have u1 := u8i b1
      have t1 : (hs.take (i + 1)).map (· / 32) = (hs.take i).map (· / 32) ++ [hs[i] / 32] := by rw [List.take_succ_eq_append_getElem (by omega), List.map_append]; rfl
      have t2 : (hs.take (i + 1)).map (· % 32) = (hs.take i).map (· % 32) ++ [hs[i] % 32] := by rw [List.take_succ_eq_append_getElem (by omega), List.map_append]; rfl
      have l1 : ((hs.take i).map (· / 32)).length ≤ 100000 := by rw [List.length_map, List.length_take]; omega
      have l2 : ((hs.take i).map (· % 32)).length ≤ 100000 := by rw [List.length_map, List.length_take]; omega
      have hih := ih (i + 1)
      rw [t1, t2] at hih
      clear t1 t2
      (refine W_at c24_ok ?_; refine ⟨_, rfl, ?_⟩; simp (disch := first | omega | assumption | rfl | (simp only [vcS] <;> omega) | fail) only [↓ptV_l, ↓vcA, vcB, ↓vcD, vcE, ↓reduceIte, Nat.reduceEqDiff, Nat.reduceAdd, Nat.reduceMul, Nat.reduceLeDiff, Int.reduceLE, Int.reduceLT, Int.reduceEq, Int.reduceToNat, Int.reduceAdd, Int.reduceSub, Int.reduceMul, Int.reduceNeg, reduceCtorEq, Option.bind_some, Option.map_some, List.length_cons, List.length_nil, vcM, List.getElem?_toArray, List.getElem?_cons_zero, List.getElem?_cons_succ, hil])
      (refine W_at c24_ok ?_; refine ⟨_, rfl, ?_⟩; simp (disch := first | omega | assumption | rfl | (simp only [vcS] <;> omega) | fail) only [↓ptV_l, ↓vcA, vcB, ↓vcD, vcE, ↓reduceIte, Nat.reduceEqDiff, Nat.reduceAdd, Nat.reduceMul, Nat.reduceLeDiff, Int.reduceLE, Int.reduceLT, Int.reduceEq, Int.reduceToNat, Int.reduceAdd, Int.reduceSub, Int.reduceMul, Int.reduceNeg, reduceCtorEq, Option.bind_some, Option.map_some, List.length_cons, List.length_nil, vcM, List.getElem?_toArray, List.getElem?_cons_zero, List.getElem?_cons_succ])
      (refine W_at c24_ok ?_; refine ⟨_, rfl, ?_⟩; simp (disch := first | omega | assumption | rfl | (simp only [vcS] <;> omega) | fail) only [↓ptV_l, ↓vcA, vcB, ↓vcD, vcE, ↓reduceIte, Nat.reduceEqDiff, Nat.reduceAdd, Nat.reduceMul, Nat.reduceLeDiff, Int.reduceLE, Int.reduceLT, Int.reduceEq, Int.reduceToNat, Int.reduceAdd, Int.reduceSub, Int.reduceMul, Int.reduceNeg, reduceCtorEq, Option.bind_some, Option.map_some, List.length_cons, List.length_nil, vcM, List.getElem?_toArray, List.getElem?_cons_zero, List.getElem?_cons_succ])
      generalize hs[i] = x at *
      have s5 := shr5_u8 x
      have a31 := and31_u8 b1
      have next : ∀ (w3 : World) (v3 v4 : Value) (tl : Env), New w w3 v3 ((hs.take i).map (· / 32) ++ [x / 32]) → New w w3 v4 ((hs.take i).map (· % 32) ++ [x % 32]) → (∀ g, blk v3 g → ¬ blk v4 g) →
          W Tryd.prog (Ret fun u w' => New w w' u (spreadF hs)) 24 4 ((0, .string (strOf hs)) :: (3, v3) :: (4, v4) :: (7, .int .i64 hs.length) :: (8, .int .i64 i) :: tl) w3 := by
        intro w3 v3 v4 tl h3 h4 hd
        (refine W_at c24_ok ?_; refine ⟨_, rfl, ?_⟩; simp (disch := first | omega | assumption | rfl | (simp only [vcS] <;> omega) | fail) only [↓ptV_l, ↓vcA, vcB, ↓vcD, vcE, ↓reduceIte, Nat.reduceEqDiff, Nat.reduceAdd, Nat.reduceMul, Nat.reduceLeDiff, Int.reduceLE, Int.reduceLT, Int.reduceEq, Int.reduceToNat, Int.reduceAdd, Int.reduceSub, Int.reduceMul, Int.reduceNeg, reduceCtorEq, Option.bind_some, Option.map_some, List.length_cons, List.length_nil, vcM, List.getElem?_toArray, List.getElem?_cons_zero, List.getElem?_cons_succ, hwi])
        (refine W_at c24_ok ?_; refine ⟨_, rfl, ?_⟩; simp (disch := first | omega | assumption | rfl | (simp only [vcS] <;> omega) | fail) only [↓ptV_l, ↓vcA, vcB, ↓vcD, vcE, ↓reduceIte, Nat.reduceEqDiff, Nat.reduceAdd, Nat.reduceMul, Nat.reduceLeDiff, Int.reduceLE, Int.reduceLT, Int.reduceEq, Int.reduceToNat, Int.reduceAdd, Int.reduceSub, Int.reduceMul, Int.reduceNeg, reduceCtorEq, Option.bind_some, Option.map_some, List.length_cons, List.length_nil, vcM, List.getElem?_toArray, List.getElem?_cons_zero, List.getElem?_cons_succ])
        exact hih w3 v3 v4 _ (by omega) h3 h4 hd
      (refine W_at c24_ok ?_; refine ⟨_, rfl, ?_⟩; simp (disch := first | omega | assumption | rfl | (simp only [vcS] <;> omega) | fail) only [↓ptV_l, ↓vcA, vcB, ↓vcD, vcE, ↓reduceIte, Nat.reduceEqDiff, Nat.reduceAdd, Nat.reduceMul, Nat.reduceLeDiff, Int.reduceLE, Int.reduceLT, Int.reduceEq, Int.reduceToNat, Int.reduceAdd, Int.reduceSub, Int.reduceMul, Int.reduceNeg, reduceCtorEq, Option.bind_some, Option.map_some, List.length_cons, List.length_nil, vcM, List.getElem?_toArray, List.getElem?_cons_zero, List.getElem?_cons_succ, h0, Int.toNat_natCast, g1, u1, s5, a31])
      have hD : Ext wj wj.drew := (Keep.refl _ wj).drew
      refine ⟨⟨?_, ?_⟩, ?_⟩
      · refine appNL (news := [x / 32]) (hV.keep hD) (by simp only [List.length_cons, List.length_nil]; omega) fun v3 w3 n3 k3 f3 => ?_
        have hG1 : New w w3 v2 ((hs.take i).map (· % 32)) := ⟨(hG.own.ext hD).keep k3 fun g h1 h2 => hdis g h2 h1, n3.ext, hG.new⟩
        have hdis1 : ∀ g, blk v3 g → ¬ blk v2 g := fun g h1 h2 => by
          rcases f3 g h1 with h | h
          · exact hdis g h h2
          · have := (hG.own.ext hD).lt h2; omega
        refine appNL (news := [x % 32]) hG1 (by simp only [List.length_cons, List.length_nil]; omega) fun v4 w4 n4 k4 f4 => ?_
        refine next w4 v3 v4 _ ⟨n3.own.keep k4 fun g h1 h2 => hdis1 g h1 h2, n4.ext, n3.new⟩ n4 fun g h1 h2 => ?_
        rcases f4 g h2 with h | h
        · exact hdis1 g h1 h
        · have := n3.own.lt h1; omega
      · exact app_two hV hG hdis ((hD.alloc _).alloc _) (Nat.le_refl _) (Nat.le_succ _) ((lit_rd wj.drew (x / 32)).ext ((Keep.refl _ _).alloc _)) (lit_rd1 wj.drew _ (x % 32)) l1 l2 fun v3 v4 w3 h1 h2 h3 => next w3 v3 v4 _ h1 h2 h3
      · exact app_two hV hG hdis ((hD.alloc _).alloc _) (Nat.le_succ _) (Nat.le_refl _) (lit_rd1 wj.drew _ (x / 32)) ((lit_rd wj.drew (x % 32)).ext ((Keep.refl _ _).alloc _)) l1 l2 fun v3 v4 w3 h1 h2 h3 => next w3 v3 v4 _ h1 h2 h3
  exact L hs.length 0 w _ _ _ (by omega) (New.nil w) (New.nil w) (fun g h => (by cases h))
end Go.Proofs
namespace Go.Proofs
open Go.Vc
set_option maxRecDepth 10000

/-! ### A step, in parts -/
def mixG (b : BitVec 64) : BitVec 64 := mixF bechG 0 b 0#64
def maskG : BitVec 64 := (1#64 <<< 25) - 1#64
theorem step_isG (c : BitVec 64) (v : Int) : stepB 25 bechG c v = ((c &&& maskG) <<< 5) ^^^ b64 v ^^^ mixG (c >>> 25) := mix_xor _ _ _ _
/-- What a difference becomes. -/
def tG (d e : BitVec 64) : BitVec 64 := ((d &&& maskG) <<< 5) ^^^ e ^^^ mixG (d >>> 25)
theorem mixG_lin {a b : BitVec 64} (ha : a.toNat < 32) (hb : b.toNat < 32) : mixG (a ^^^ b) = mixG a ^^^ mixG b := by
  obtain ⟨n, rfl⟩ := lt32 ha
  obtain ⟨m, rfl⟩ := lt32 hb
  have hd : ∀ n m : Fin 32, mixG (BitVec.ofNat 64 n.val ^^^ BitVec.ofNat 64 m.val) = mixG (BitVec.ofNat 64 n.val) ^^^ mixG (BitVec.ofNat 64 m.val) := by decide +kernel
  exact hd n m
theorem shr25 {c : BitVec 64} (h : c.toNat < 2 ^ 30) : (c >>> 25).toNat < 32 := by
  rw [BitVec.toNat_ushiftRight, Nat.shiftRight_eq_div_pow]
  omega
theorem step_diffG {a b : BitVec 64} (ha : a.toNat < 2 ^ 30) (hb : b.toNat < 2 ^ 30) (v u : Int) : stepB 25 bechG a v ^^^ stepB 25 bechG b u = tG (a ^^^ b) (b64 v ^^^ b64 u) := by
  rw [step_isG, step_isG, tG, BitVec.ushiftRight_xor_distrib, mixG_lin (shr25 ha) (shr25 hb)]
  have e : (a ^^^ b) &&& maskG = (a &&& maskG) ^^^ (b &&& maskG) := by
    apply BitVec.eq_of_getLsbD_eq
    intro i hi
    simp only [BitVec.getLsbD_and, BitVec.getLsbD_xor]
    cases a.getLsbD i <;> cases b.getLsbD i <;> cases maskG.getLsbD i <;> rfl
  rw [e, BitVec.shiftLeft_xor_distrib]
  ac_rfl
theorem maskG_nat : maskG.toNat = 2 ^ 25 - 1 := by decide +kernel
theorem and_maskG (d : BitVec 64) : (d &&& maskG).toNat = d.toNat % 2 ^ 25 := by rw [BitVec.toNat_and, maskG_nat, Nat.and_two_pow_sub_one_eq_mod]
theorem shl_maskG (d : BitVec 64) : ((d &&& maskG) <<< 5).toNat = d.toNat % 2 ^ 25 * 32 := by
  rw [BitVec.toNat_shiftLeft, and_maskG, Nat.shiftLeft_eq]
  omega
theorem mixG_lt {b : BitVec 64} (h : b.toNat < 32) : (mixG b).toNat < 2 ^ 30 := by
  obtain ⟨n, rfl⟩ := lt32 h
  have hd : ∀ n : Fin 32, (mixG (BitVec.ofNat 64 n.val)).toNat < 2 ^ 30 := by decide +kernel
  exact hd n
theorem tG_lt {d e : BitVec 64} (hd : d.toNat < 2 ^ 30) (he : e.toNat < 32) : (tG d e).toNat < 2 ^ 30 := by
  refine xor_lt (xor_lt ?_ (by omega)) (mixG_lt (shr25 hd))
  rw [shl_maskG]; omega
theorem step_ltG {c : BitVec 64} (h : c.toNat < 2 ^ 30) {v : Int} (hv : 0 ≤ v ∧ v < 32) : (stepB 25 bechG c v).toNat < 2 ^ 30 := by
  rw [step_isG]
  exact tG_lt h (b64_lt hv)

/-! ### Many steps -/
def rG (c : BitVec 64) (vs : List Int) : BitVec 64 := vs.foldl (stepB 25 bechG) c
theorem rG_app (c : BitVec 64) (a b : List Int) : rG c (a ++ b) = rG (rG c a) b := List.foldl_append
def five (vs : List Int) : Prop := ∀ v ∈ vs, 0 ≤ v ∧ v < 32
theorem five_app {a b : List Int} (ha : five a) (hb : five b) : five (a ++ b) := fun v hv => by
  rcases List.mem_append.1 hv with h | h
  · exact ha v h
  · exact hb v h
theorem five_byt {a : List Int} (h : five a) : byt a := fun v hv => by have := h v hv; omega
theorem five_rep (k : Nat) : five (List.replicate k 0) := fun v hv => by rw [(List.mem_replicate.1 hv).2]; omega
theorem rG_lt : ∀ (vs : List Int) {c : BitVec 64}, c.toNat < 2 ^ 30 → five vs → (rG c vs).toNat < 2 ^ 30
  | [], _, h, _ => h
  | v :: vs, _, h, hv => rG_lt vs (step_ltG h (hv v (by simp))) fun u hu => hv u (List.mem_cons_of_mem _ hu)
/-- What a difference is, so many noughts later. -/
def dG : Nat → BitVec 64 → BitVec 64
  | 0, d => d
  | k + 1, d => dG k (tG d 0#64)
theorem rG_same : ∀ (vs : List Int) {a b : BitVec 64}, a.toNat < 2 ^ 30 → b.toNat < 2 ^ 30 → five vs → rG a vs ^^^ rG b vs = dG vs.length (a ^^^ b)
  | [], _, _, _, _, _ => rfl
  | v :: vs, a, b, ha, hb, hv => by
    have hv0 := hv v (by simp)
    have h1 := rG_same vs (step_ltG ha hv0) (step_ltG hb hv0) fun u hu => hv u (List.mem_cons_of_mem _ hu)
    rw [step_diffG ha hb, BitVec.xor_self] at h1
    exact h1
/-- What a difference is behind differing values. -/
def dV : BitVec 64 → List Int → BitVec 64
  | d, [] => d
  | d, v :: vs => dV (tG d (b64 v)) vs
theorem b64_0 : b64 0 = 0#64 := rfl
theorem rG_zeros : ∀ (vs : List Int) {a b : BitVec 64}, a.toNat < 2 ^ 30 → b.toNat < 2 ^ 30 → five vs → rG a vs ^^^ rG b (List.replicate vs.length 0) = dV (a ^^^ b) vs
  | [], _, _, _, _, _ => rfl
  | v :: vs, a, b, ha, hb, hv => by
    have hv0 := hv v (by simp)
    have h1 := rG_zeros vs (step_ltG ha hv0) (step_ltG hb (v := 0) (by omega)) fun u hu => hv u (List.mem_cons_of_mem _ hu)
    rw [step_diffG ha hb, b64_0, BitVec.xor_zero] at h1
    exact h1
theorem bit31 (i : Nat) (hi : i < 64) : (31#64).getLsbD i = decide (i < 5) := by
  have h : ∀ i : Fin 64, (31#64).getLsbD i.val = decide (i.val < 5) := by decide +kernel
  exact h ⟨i, hi⟩
theorem low5 (y : BitVec 64) : ((y >>> 5) <<< 5) ^^^ (y &&& 31#64) = y := by
  apply BitVec.eq_of_getLsbD_eq
  intro i hi
  simp only [BitVec.getLsbD_xor, BitVec.getLsbD_and, BitVec.getLsbD_shiftLeft, BitVec.getLsbD_ushiftRight, bit31 i hi]
  by_cases h : i < 5
  · simp [h]
  · have e : 5 + (i - 5) = i := by omega
    simp [h, e, hi]
theorem mixG_0 : mixG 0#64 = 0#64 := by decide +kernel
theorem tG_small {d : BitVec 64} (h : d.toNat < 2 ^ 25) (e : BitVec 64) : tG d e = (d <<< 5) ^^^ e := by
  have h1 : d >>> 25 = 0#64 := by
    apply BitVec.eq_of_toNat_eq
    rw [BitVec.toNat_ushiftRight, Nat.shiftRight_eq_div_pow]
    simp; omega
  have h2 : d &&& maskG = d := by
    apply BitVec.eq_of_toNat_eq
    rw [and_maskG, Nat.mod_eq_of_lt h]
  rw [tG, h1, h2, mixG_0, BitVec.xor_zero]
theorem b64_and (y : BitVec 64) : b64 ((y &&& 31#64).toNat : Int) = y &&& 31#64 := by
  rw [b64, Int.toNat_natCast]; simp
theorem dV_letters {X : BitVec 64} (hX : X.toNat < 2 ^ 30) : dV 0#64 (lettersF X 6) = X := by
  have step : ∀ j, 5 ≤ j → tG (X >>> j) ((X >>> (j - 5)) &&& 31#64) = X >>> (j - 5) := fun j hj => by
    have hlt : (X >>> j).toNat < 2 ^ 25 := by
      rw [BitVec.toNat_ushiftRight, Nat.shiftRight_eq_div_pow]
      have h1 : 2 ^ 5 ≤ 2 ^ j := Nat.pow_le_pow_right (by decide) hj
      refine (Nat.div_lt_iff_lt_mul (Nat.pow_pos (by decide))).2 ?_
      have h2 : 2 ^ 25 * 2 ^ 5 ≤ 2 ^ 25 * 2 ^ j := Nat.mul_le_mul_left _ h1
      omega
    rw [tG_small hlt]
    have e : X >>> j = (X >>> (j - 5)) >>> 5 := by rw [← BitVec.shiftRight_add]; congr 1; omega
    rw [e, low5]
  have h0 : X >>> 30 = 0#64 := by
    apply BitVec.eq_of_toNat_eq
    rw [BitVec.toNat_ushiftRight, Nat.shiftRight_eq_div_pow]
    simp; omega
  have el : lettersF X 6 = [((X >>> 25 &&& 31#64).toNat : Int), ((X >>> 20 &&& 31#64).toNat : Int), ((X >>> 15 &&& 31#64).toNat : Int), ((X >>> 10 &&& 31#64).toNat : Int), ((X >>> 5 &&& 31#64).toNat : Int), ((X >>> 0 &&& 31#64).toNat : Int)] := rfl
  rw [el]
  simp only [dV, b64_and]
  rw [← h0, step 30 (by decide), step 25 (by decide), step 20 (by decide), step 15 (by decide), step 10 (by decide), step 5 (by decide)]
  simp
/-! ### What is written, and what is read -/
def okH (h : List Int) : Bool := h.all fun c => decide (33 ≤ c) && decide (c ≤ 126) && !(decide (65 ≤ c) && decide (c ≤ 90))
def sumX (h d : List Int) (m : Bool) : BitVec 64 := runB 25 bechG (spreadF h ++ d ++ List.replicate 6 0) ^^^ constB m
def sumL (h d : List Int) (m : Bool) : List Int := lettersF (sumX h d m) 6
def bechF (h d : List Int) (m : Bool) : List Int := h ++ 49 :: (d ++ sumL h d m).map l32F
def bechE (h d : List Int) (m : Bool) : List Int × Int :=
  if 83 < h.length ∨ 90 < h.length + 1 + d.length + 6 then ([], 2)
  else if h = [] ∨ okH h = false ∨ d.any (fun v => decide (31 < v)) = true then ([], 3)
  else (bechF h d m, 0)
def lwF (c : Int) : Int := if 65 ≤ c ∧ c ≤ 90 then c + 32 else c
def upF (c : Int) : Int := if 97 ≤ c ∧ c ≤ 122 then c - 32 else c
def seen (s : List Int) : Bool := s.all fun c => decide (33 ≤ c) && decide (c ≤ 126)
def plainE (s : List Int) : List Int × Bool := if seen s then (s.map lwF, decide (s = s.map lwF) || decide (s = s.map upF)) else ([], false)
def lastF : List Int → Nat → Int
  | [], _ => -1
  | b :: l, k => if 0 ≤ lastF l (k + 1) then lastF l (k + 1) else if b = 49 then (k : Int) else -1
structure Read where
  h : List Int
  d : List Int
  m : Bool
  e : Int
def noRead (e : Int) : Read := ⟨[], [], false, e⟩
def readV (h vs : List Int) : Read :=
  if vs.any (fun v => decide (v < 0)) = true then noRead 3
  else if runB 25 bechG (spreadF h ++ vs) ≠ constB false ∧ runB 25 bechG (spreadF h ++ vs) ≠ constB true then noRead 5
  else ⟨h, vs.take (vs.length - 6), decide (runB 25 bechG (spreadF h ++ vs) = constB true), 0⟩
def valsF (l : List Int) : List Int := l.map fun c => placeF c l32S 0
def fromP (p : List Int × Bool) : Read :=
  if p.2 = false ∨ lastF p.1 0 < 1 ∨ (p.1.length : Int) - lastF p.1 0 - 1 < 6 then noRead 3
  else readV (p.1.take (lastF p.1 0).toNat) (valsF (p.1.drop ((lastF p.1 0).toNat + 1)))
def fromE (s : List Int) : Read := if 90 < s.length then noRead 2 else fromP (plainE s)
end Go.Proofs
namespace Go.Proofs
open Go.Vc
set_option maxRecDepth 10000

def OwnQ (w : World) (v : Value) (bs : List Int) : Prop :=
  ∃ g cap cur fr, v = .slice (some ⟨g, 0, none⟩) bs.length cap ∧ w.heap[g]? = some (.cells cur 5 fr) ∧ (fr = (0, 0) ∨ cap ≤ fr.1) ∧ bs.length ≤ cap ∧ cap ≤ maxLen ∧ cur.size = cap ∧ cur.toList.take bs.length = bv bs
theorem OwnQ.rdS {w : World} {v : Value} {bs : List Int} (h : OwnQ w v bs) : Vc.rdS w 1 v = some (bv bs).toArray := by
  obtain ⟨g, cap, cur, fr, rfl, hg, hfr, hn, hcm, hcs, htake⟩ := h
  simp only [Vc.rdS]
  split
  · rename_i h0
    have : bs = [] := List.eq_nil_of_length_eq_zero h0
    subst this; rfl
  · rw [rdN_heap, hg, rdO_some _ _ _ _ _ (by omega)]
    congr 1
    apply Array.ext'
    simp only [Array.toList_extract, List.extract_eq_take_drop, Nat.zero_add, Nat.mul_one, Nat.sub_zero, List.drop_zero, htake]
theorem OwnQ.rd {w : World} {v : Value} {bs : List Int} (h : OwnQ w v bs) : Rd w v bs := by
  have hr := h.rdS
  obtain ⟨g, cap, cur, fr, rfl, hg, hfr, hn, hcm, hcs, htake⟩ := h
  exact ⟨⟨_, _, rfl, hn⟩, Nat.le_trans hn hcm, hr⟩
theorem OwnQ.lt {w : World} {v : Value} {bs : List Int} (h : OwnQ w v bs) {g : Nat} (hg : blk v g) : g < w.heap.size := by
  obtain ⟨g', cap, cur, fr, rfl, h1, _⟩ := h
  cases hg
  exact lt_of_heap h1
theorem OwnQ.keep {S : Nat → Prop} {w w' : World} {v : Value} {bs : List Int} (h : OwnQ w v bs) (k : Keep S w w') (hS : ∀ g, blk v g → ¬ S g) : OwnQ w' v bs := by
  obtain ⟨g, cap, cur, fr, rfl, hg, r⟩ := h
  exact ⟨g, cap, cur, fr, rfl, k.at hg (hS g rfl), r⟩
theorem OwnQ.ext {w w' : World} {v : Value} {bs : List Int} (h : OwnQ w v bs) (k : Ext w w') : OwnQ w' v bs := h.keep k fun _ _ h => h
theorem appQ {w : World} {v x : Value} {bs news : List Int} {K : Value → World → Prop} (h : OwnQ w v bs) (hx : Rd w x news) (hlen : bs.length + news.length ≤ 1000000000)
    (hk : ∀ v' w', OwnQ w' v' (bs ++ news) → Keep (blk v) w w' → (∀ g, blk v' g → blk v g ∨ w.heap.size ≤ g) → K v' w') : appV 5 1 1 [.int .u8 0] v x w K := by
  have hro := h.rdS
  have hq := h
  obtain ⟨g, cap, cur, fr, rfl, hg, hfr, hn, hcm, hcs, htake⟩ := h
  obtain ⟨⟨q, c, rfl, hc⟩, hm, hr⟩ := hx
  have hml : maxLen = 9223372036854775807 := rfl
  have hl2 : (bs ++ news).length = bs.length + news.length := List.length_append
  have hbl := bv_len bs
  have hnl := bv_len news
  unfold appV
  simp only [hro, hr, getV_some]
  refine ⟨bv_flat news, by omega, by omega, rfl, fun hc => ⟨fun h0 => ?_, fun h0 b o hp => ?_⟩, fun hc h0 => ⟨g, 0, rfl⟩, fun hc c' h1 h2 => ?_⟩
  · have h00 : news = [] := List.eq_nil_of_length_eq_zero (by omega)
    subst h00
    refine hk _ _ ?_ (Keep.refl _ w) fun g hg => .inl hg
    rw [List.append_nil]; exact hq
  · cases hp
    have hput : (w.putN g (0 + bs.length * 1) (bv news).toArray).heap[g]? = some (.cells (spliceA cur (0 + bs.length * 1) (bv news).toArray) 5 fr) := by
      simp only [World.putN, hg]
      exact setRow_heap w g _ _ _ _ hg
    have hsp : (spliceA cur (0 + bs.length * 1) (bv news).toArray).toList = bv bs ++ bv news ++ cur.toList.drop (bs.length + news.length) := by
      simp only [spliceA, Nat.zero_add, Nat.mul_one, List.size_toArray, hnl]
      rw [htake]
    refine ⟨⟨cur, 5, fr, hg, by omega, hfr.imp id fun h => by omega⟩, hk _ _ ⟨g, cap, _, fr, by rw [hl2], hput, hfr, by omega, hcm, ?_, ?_⟩ ⟨by simp only [World.putN, hg]; rfl, by simp only [World.putN, hg]; rfl, by simp only [World.putN, hg]; rfl, by rw [size_putN]; exact Nat.le_refl _, fun k _ hk => heap_putN_ne w g k _ _ (fun e => hk (by rw [e]; rfl))⟩ fun g' hg' => .inl hg'⟩
    · rw [← Array.length_toList, hsp]
      simp only [List.length_append, hbl, hnl, List.length_drop, Array.length_toList, hcs]
      omega
    · rw [hsp, hl2, ← hbl, ← hnl, ← List.length_append, List.take_left, bv_app]
  · refine hk _ _ ⟨w.heap.size, c', _, (0, 0), by rw [hl2], heap_alloc_new w.drew _, .inl rfl, by omega, h2, ?_, ?_⟩ ((Keep.refl _ w).drew.alloc _) (fun g hg => by cases hg; exact .inr (Nat.le_refl _))
    · rw [List.size_toArray, List.length_append, List.length_append, length_zrep]
      simp only [hbl, hnl, List.length_cons, List.length_nil]
      omega
    · show (bv bs ++ bv news ++ _).take _ = _
      rw [hl2, ← hbl, ← hnl, ← List.length_append, List.take_left, bv_app]
/-- The same, behind a literal of bytes. -/
theorem appQL {w : World} {v : Value} {bs news : List Int} {K : Value → World → Prop} (h : OwnQ w v bs) (hlen : bs.length + news.length ≤ 1000000000)
    (hk : ∀ v' w', OwnQ w' v' (bs ++ news) → Keep (blk v) w w' → (∀ g, blk v' g → blk v g ∨ w.heap.size ≤ g) → K v' w') :
    appV 5 1 1 [.int .u8 0] v (.slice (some ⟨w.heap.size, 0, none⟩) news.length news.length) (w.alloc (.cells (bv news).toArray 5)) K := by
  have hE : Ext w (w.alloc (.cells (bv news).toArray 5)) := (Keep.refl _ w).alloc _
  have hml : maxLen = 9223372036854775807 := rfl
  refine appQ (h.ext hE) (own_lit1 (w := w) (bs := news) (by omega)).rd hlen fun v' w' h1 h2 h3 => hk v' w' h1 ((hE.mono fun _ h => h.elim).trans h2 fun _ _ h => h) fun g hg => ?_
  rcases h3 g hg with h4 | h4
  · exact .inl h4
  · exact .inr (Nat.le_trans hE.size h4)
structure NewQ (w w' : World) (u : Value) (bs : List Int) : Prop where
  own : OwnQ w' u bs
  ext : Ext w w'
  new : ∀ g, blk u g → w.heap.size ≤ g
theorem appNQ {w0 w : World} {v : Value} {bs news : List Int} {K : Value → World → Prop} (h : NewQ w0 w v bs) (hlen : bs.length + news.length ≤ 1000000000)
    (hk : ∀ v' w', NewQ w0 w' v' (bs ++ news) → Keep (blk v) w w' → (∀ g, blk v' g → blk v g ∨ w.heap.size ≤ g) → K v' w') :
    appV 5 1 1 [.int .u8 0] v (.slice (some ⟨w.heap.size, 0, none⟩) news.length news.length) (w.alloc (.cells (bv news).toArray 5)) K := by
  refine appQL h.own hlen fun v' w' h1 h2 h3 => hk v' w' ⟨h1, ?_, fun g hg => ?_⟩ h2 h3
  · exact h.ext.trans h2 fun i hi hb => by have := h.new i hb; omega
  · rcases h3 g hg with h4 | h4
    · exact h.new g h4
    · exact Nat.le_trans h.ext.size h4
theorem str_cells {bs : List Int} (h : byt bs) : ((strOf bs).data.map fun b => Value.int .u8 b.toNat) = (bv bs).toArray := by
  apply Array.ext'
  simp only [strOf, Array.toList_map, List.map_map, bv]
  refine List.map_congr_left fun x hx => ?_
  have := u8i (h x hx)
  simp only [Function.comp]
  rw [this]
theorem s2b_ok {w : World} {bs : List Int} {K : Value → World → Prop} (hb : byt bs) (hl : bs.length ≤ 1000000000) (hk : ∀ v w', NewQ w w' v bs → K v w') : s2bV 5 (.string (strOf bs)) w K := by
  have hml : maxLen = 9223372036854775807 := rfl
  simp only [s2bV]
  have hs := str_size bs
  refine ⟨by omega, fun c h1 h2 => hk _ _ ⟨⟨w.heap.size, c, _, (c, c + 1), by rw [hs], heap_alloc_new w.drew _, .inr (Nat.le_refl _), by omega, h2, ?_, ?_⟩, (Keep.refl _ w).drew.alloc _, fun g hg => by cases hg; exact Nat.le_refl _⟩⟩
  · rw [Array.size_append, Array.size_map, Array.size_replicate]
    have : (strOf bs).data.size = (strOf bs).size := rfl
    omega
  · rw [str_cells hb, Array.toList_append]
    show (bv bs ++ _).take _ = _
    rw [← bv_len bs, List.take_left]
end Go.Proofs
namespace Go.Proofs
open Go.Vc
set_option maxRecDepth 10000

def okc (c : Int) : Bool := decide (33 ≤ c) && decide (c ≤ 126) && !(decide (65 ≤ c) && decide (c ≤ 90))
theorem okH_take {h : List Int} {i : Nat} (hi : i < h.length) : okH (h.take (i + 1)) = (okH (h.take i) && okc h[i]) := by
  rw [List.take_succ_eq_append_getElem hi, okH, okH, List.all_append]
  simp [okc]
def bigV (d : List Int) : Bool := d.any fun v => decide (31 < v)
theorem bigV_take {d : List Int} {i : Nat} (hi : i < d.length) : bigV (d.take (i + 1)) = (bigV (d.take i) || decide (31 < d[i])) := by
  rw [List.take_succ_eq_append_getElem hi, bigV, bigV, List.any_append]
  simp
theorem bigV_five {d : List Int} (hb : byt d) (h : bigV d = false) : five d := fun v hv => by
  have h1 := hb v hv
  unfold bigV at h
  rw [List.any_eq_false] at h
  have := h v hv
  simp at this
  omega
def bechR (p : List Int × Int) : Value := .tuple #[.string (strOf p.1), .int .i64 p.2]
/-- The letters, written. -/
theorem bech_write (w0 w : World) (h d : List Int) (m : Bool) (u v : Value) (tl : Env) (hE : Ext w0 w) (hb : byt h) (hd : Rd w v d) (hd5 : five d) (hl : h.length + d.length ≤ 1000) (hu : Rd w u (sumL h d m)) :
    W Tryd.prog (Ret fun x w' => x = bechR (bechF h d m, 0) ∧ Ext w0 w') 10 10 ((0, .string (strOf h)) :: (1, v) :: (13, u) :: tl) w := by
  have hs5 : five (sumL h d m) := fun x hx => by have := letters_b _ _ x hx; omega
  have hsl : (sumL h d m).length = 6 := by simp [sumL, lettersF]
  have hfit := concat_fits (a := h) (b := [49]) (by simp; omega)
  have e49 : (⟨#[49]⟩ : ByteArray) = strOf [49] := by decide +kernel
  have happ := str_app h [49]
  (refine W_at c10_ok ?_; refine ⟨_, rfl, ?_⟩; simp (disch := first | omega | assumption | rfl | (simp only [vcS] <;> omega) | fail) only [↓ptV_l, ↓vcA, vcB, ↓vcD, vcE, ↓reduceIte, Nat.reduceEqDiff, Nat.reduceAdd, Nat.reduceMul, Nat.reduceLeDiff, Int.reduceLE, Int.reduceLT, Int.reduceEq, Int.reduceToNat, Int.reduceAdd, Int.reduceSub, Int.reduceMul, Int.reduceNeg, reduceCtorEq, Option.bind_some, Option.map_some, List.length_cons, List.length_nil, vcM, List.getElem?_toArray, List.getElem?_cons_zero, List.getElem?_cons_succ, e49, bin_sadd, hfit, happ])
  refine s2b_ok (byt_app hb (byt1 (by omega))) (by simp; omega) fun vo w1 hO => ?_
  first | (simp (disch := first | omega | assumption | rfl | (simp only [vcS] <;> omega) | fail) only [↓ptV_l, ↓vcA, vcB, ↓vcD, vcE, ↓reduceIte, Nat.reduceEqDiff, Nat.reduceAdd, Nat.reduceMul, Nat.reduceLeDiff, Int.reduceLE, Int.reduceLT, Int.reduceEq, Int.reduceToNat, Int.reduceAdd, Int.reduceSub, Int.reduceMul, Int.reduceNeg, reduceCtorEq, Option.bind_some, Option.map_some, List.length_cons, List.length_nil, vcM, List.getElem?_toArray, List.getElem?_cons_zero, List.getElem?_cons_succ]) | skip
  (refine W_at c10_ok ?_; refine ⟨_, rfl, ?_⟩; simp (disch := first | omega | assumption | rfl | (simp only [vcS] <;> omega) | fail) only [↓ptV_l, ↓vcA, vcB, ↓vcD, vcE, ↓reduceIte, Nat.reduceEqDiff, Nat.reduceAdd, Nat.reduceMul, Nat.reduceLeDiff, Int.reduceLE, Int.reduceLT, Int.reduceEq, Int.reduceToNat, Int.reduceAdd, Int.reduceSub, Int.reduceMul, Int.reduceNeg, reduceCtorEq, Option.bind_some, Option.map_some, List.length_cons, List.length_nil, vcM, List.getElem?_toArray, List.getElem?_cons_zero, List.getElem?_cons_succ])
  refine callV_ret (sclone_ok w1 v d (hd.ext hO.ext) (by omega)) ?_
  rintro u2 w2 hN
  first | (simp (disch := first | omega | assumption | rfl | (simp only [vcS] <;> omega) | fail) only [↓ptV_l, ↓vcA, vcB, ↓vcD, vcE, ↓reduceIte, Nat.reduceEqDiff, Nat.reduceAdd, Nat.reduceMul, Nat.reduceLeDiff, Int.reduceLE, Int.reduceLT, Int.reduceEq, Int.reduceToNat, Int.reduceAdd, Int.reduceSub, Int.reduceMul, Int.reduceNeg, reduceCtorEq, Option.bind_some, Option.map_some, List.length_cons, List.length_nil, vcM, List.getElem?_toArray, List.getElem?_cons_zero, List.getElem?_cons_succ]) | skip
  refine appN hN ((hu.ext hO.ext).ext hN.ext) (by omega) fun v3 w3 n3 _ _ => ?_
  have hlen := n3.own.rd.len
  have hll : (d ++ sumL h d m).length = d.length + 6 := by rw [List.length_append, hsl]
  have hO3 : NewQ w w3 vo (h ++ [49]) := ⟨hO.own.ext n3.ext, hO.ext.ext n3.ext, hO.new⟩
  have hdis : ∀ g, blk v3 g → ¬ blk vo g := fun g h1 h2 => by have := n3.new g h1; have := hO.own.lt h2; omega
  have hb5 : five (d ++ sumL h d m) := five_app hd5 hs5
  have hF : bechF h d m = h ++ [49] ++ (d ++ sumL h d m).map l32F := by simp [bechF]
  rw [hF]
  have hR := n3.own
  have hprl : (h ++ [49]).length ≤ 1001 := by rw [List.length_append, List.length_cons, List.length_nil]; omega
  have hlsl : (d ++ sumL h d m).length ≤ 1006 := by omega
  generalize d ++ sumL h d m = ls at *
  generalize h ++ [49] = pre at *
  first | (simp (disch := first | omega | assumption | rfl | (simp only [vcS] <;> omega) | fail) only [↓ptV_l, ↓vcA, vcB, ↓vcD, vcE, ↓reduceIte, Nat.reduceEqDiff, Nat.reduceAdd, Nat.reduceMul, Nat.reduceLeDiff, Int.reduceLE, Int.reduceLT, Int.reduceEq, Int.reduceToNat, Int.reduceAdd, Int.reduceSub, Int.reduceMul, Int.reduceNeg, reduceCtorEq, Option.bind_some, Option.map_some, List.length_cons, List.length_nil, vcM, List.getElem?_toArray, List.getElem?_cons_zero, List.getElem?_cons_succ, hlen]) | skip
  have L : ∀ (k i : Nat) (wj : World) (vb : Value) (tl : Env), k + i = ls.length → NewQ w wj vb (pre ++ (ls.take i).map l32F) → Own1 wj v3 ls → (∀ g, blk v3 g → ¬ blk vb g) →
      W Tryd.prog (Ret fun x w' => x = bechR (pre ++ ls.map l32F, 0) ∧ Ext w0 w') 10 8 ((14, vb) :: (93, v3) :: (94, .int .i64 ls.length) :: (95, .int .i64 i) :: tl) wj := by
    intro k
    induction k with
    | zero =>
      intro i wj vb tl hi hB hV hds
      have hil : ¬ ((i : Int) < (ls.length : Int)) := by omega
      rw [List.take_of_length_le (by omega)] at hB
      have hs := hB.own.rd.b2s
      (refine W_at c10_ok ?_; refine ⟨_, rfl, ?_⟩; simp (disch := first | omega | assumption | rfl | (simp only [vcS] <;> omega) | fail) only [↓ptV_l, ↓vcA, vcB, ↓vcD, vcE, ↓reduceIte, Nat.reduceEqDiff, Nat.reduceAdd, Nat.reduceMul, Nat.reduceLeDiff, Int.reduceLE, Int.reduceLT, Int.reduceEq, Int.reduceToNat, Int.reduceAdd, Int.reduceSub, Int.reduceMul, Int.reduceNeg, reduceCtorEq, Option.bind_some, Option.map_some, List.length_cons, List.length_nil, vcM, List.getElem?_toArray, List.getElem?_cons_zero, List.getElem?_cons_succ, hil])
      (refine W_at c10_ok ?_; refine ⟨_, rfl, ?_⟩; simp (disch := first | omega | assumption | rfl | (simp only [vcS] <;> omega) | fail) only [↓ptV_l, ↓vcA, vcB, ↓vcD, vcE, ↓reduceIte, Nat.reduceEqDiff, Nat.reduceAdd, Nat.reduceMul, Nat.reduceLeDiff, Int.reduceLE, Int.reduceLT, Int.reduceEq, Int.reduceToNat, Int.reduceAdd, Int.reduceSub, Int.reduceMul, Int.reduceNeg, reduceCtorEq, Option.bind_some, Option.map_some, List.length_cons, List.length_nil, vcM, List.getElem?_toArray, List.getElem?_cons_zero, List.getElem?_cons_succ])
      (refine W_at c10_ok ?_; refine ⟨_, rfl, ?_⟩; simp (disch := first | omega | assumption | rfl | (simp only [vcS] <;> omega) | fail) only [↓ptV_l, ↓vcA, vcB, ↓vcD, vcE, ↓reduceIte, Nat.reduceEqDiff, Nat.reduceAdd, Nat.reduceMul, Nat.reduceLeDiff, Int.reduceLE, Int.reduceLT, Int.reduceEq, Int.reduceToNat, Int.reduceAdd, Int.reduceSub, Int.reduceMul, Int.reduceNeg, reduceCtorEq, Option.bind_some, Option.map_some, List.length_cons, List.length_nil, vcM, List.getElem?_toArray, List.getElem?_cons_zero, List.getElem?_cons_succ, hs])
      (refine W_at c10_ok ?_; refine ⟨_, rfl, ?_⟩; simp (disch := first | omega | assumption | rfl | (simp only [vcS] <;> omega) | fail) only [↓ptV_l, ↓vcA, vcB, ↓vcD, vcE, ↓reduceIte, Nat.reduceEqDiff, Nat.reduceAdd, Nat.reduceMul, Nat.reduceLeDiff, Int.reduceLE, Int.reduceLT, Int.reduceEq, Int.reduceToNat, Int.reduceAdd, Int.reduceSub, Int.reduceMul, Int.reduceNeg, reduceCtorEq, Option.bind_some, Option.map_some, List.length_cons, List.length_nil, vcM, List.getElem?_toArray, List.getElem?_cons_zero, List.getElem?_cons_succ, Ret_returned])
      exact ⟨rfl, hE.trans hB.ext fun _ _ h => h⟩
    | succ k ih =>
      intro i wj vb tl hi hB hV hds
      have hil : (i : Int) < (ls.length : Int) := by omega
      have hi2 : 0 ≤ (i : Int) ∧ (i : Int) < (ls.length : Int) := by omega
      have hwi : IntKind.i64.wrap ((i : Int) + 1) = ((i + 1 : Nat) : Int) := wrap_i64 (by omega) (by omega)
      obtain ⟨b, o, c, hv3, hcell⟩ := hV.rd.at (i := i) (by omega)
      have hx := hb5 ls[i] (List.getElem_mem _)
      have ht : pre ++ (ls.take (i + 1)).map l32F = pre ++ (ls.take i).map l32F ++ [l32F ls[i]] := by rw [List.take_succ_eq_append_getElem (by omega), List.map_append, List.append_assoc]; rfl
      have hih := ih (i + 1)
      rw [ht] at hih
      clear ht
      have hpl : (pre ++ (ls.take i).map l32F).length ≤ 3000 := by rw [List.length_append, List.length_map, List.length_take]; omega
      subst hv3
      (refine W_at c10_ok ?_; refine ⟨_, rfl, ?_⟩; simp (disch := first | omega | assumption | rfl | (simp only [vcS] <;> omega) | fail) only [↓ptV_l, ↓vcA, vcB, ↓vcD, vcE, ↓reduceIte, Nat.reduceEqDiff, Nat.reduceAdd, Nat.reduceMul, Nat.reduceLeDiff, Int.reduceLE, Int.reduceLT, Int.reduceEq, Int.reduceToNat, Int.reduceAdd, Int.reduceSub, Int.reduceMul, Int.reduceNeg, reduceCtorEq, Option.bind_some, Option.map_some, List.length_cons, List.length_nil, vcM, List.getElem?_toArray, List.getElem?_cons_zero, List.getElem?_cons_succ, hil])
      (refine W_at c10_ok ?_; refine ⟨_, rfl, ?_⟩; simp (disch := first | omega | assumption | rfl | (simp only [vcS] <;> omega) | fail) only [↓ptV_l, ↓vcA, vcB, ↓vcD, vcE, ↓reduceIte, Nat.reduceEqDiff, Nat.reduceAdd, Nat.reduceMul, Nat.reduceLeDiff, Int.reduceLE, Int.reduceLT, Int.reduceEq, Int.reduceToNat, Int.reduceAdd, Int.reduceSub, Int.reduceMul, Int.reduceNeg, reduceCtorEq, Option.bind_some, Option.map_some, List.length_cons, List.length_nil, vcM, List.getElem?_toArray, List.getElem?_cons_zero, List.getElem?_cons_succ])
      generalize ls[i] = x at *
      have g1 := l32_at (x := x) (by omega)
      have u1 := u8i (l32F_b (x := x) (by omega))
      have hx0 := hx.1
      (refine W_at c10_ok ?_; refine ⟨_, rfl, ?_⟩; simp (disch := first | omega | assumption | rfl | (simp only [vcS] <;> omega) | fail) only [↓ptV_l, ↓vcA, vcB, ↓vcD, vcE, ↓reduceIte, Nat.reduceEqDiff, Nat.reduceAdd, Nat.reduceMul, Nat.reduceLeDiff, Int.reduceLE, Int.reduceLT, Int.reduceEq, Int.reduceToNat, Int.reduceAdd, Int.reduceSub, Int.reduceMul, Int.reduceNeg, reduceCtorEq, Option.bind_some, Option.map_some, List.length_cons, List.length_nil, vcM, List.getElem?_toArray, List.getElem?_cons_zero, List.getElem?_cons_succ, hi2, hcell, Int.toNat_natCast, Nat.mul_one])
      (refine W_at c10_ok ?_; refine ⟨_, rfl, ?_⟩; simp (disch := first | omega | assumption | rfl | (simp only [vcS] <;> omega) | fail) only [↓ptV_l, ↓vcA, vcB, ↓vcD, vcE, ↓reduceIte, Nat.reduceEqDiff, Nat.reduceAdd, Nat.reduceMul, Nat.reduceLeDiff, Int.reduceLE, Int.reduceLT, Int.reduceEq, Int.reduceToNat, Int.reduceAdd, Int.reduceSub, Int.reduceMul, Int.reduceNeg, reduceCtorEq, Option.bind_some, Option.map_some, List.length_cons, List.length_nil, vcM, List.getElem?_toArray, List.getElem?_cons_zero, List.getElem?_cons_succ, l32S_is, hx0, g1, u1])
      refine appNQ (news := [l32F x]) hB (by simp only [List.length_cons, List.length_nil]; omega) fun v' w' n1 k1 f1 => ?_
      have hV2 := hV.keep k1 fun g h1 h2 => hds g h1 h2
      have hds2 : ∀ g, blk (.slice (some ⟨b, o, none⟩) ls.length c) g → ¬ blk v' g := fun g h1 h2 => by
        rcases f1 g h2 with h | h
        · exact hds g h1 h
        · have := hV.lt h1; omega
      (refine W_at c10_ok ?_; refine ⟨_, rfl, ?_⟩; simp (disch := first | omega | assumption | rfl | (simp only [vcS] <;> omega) | fail) only [↓ptV_l, ↓vcA, vcB, ↓vcD, vcE, ↓reduceIte, Nat.reduceEqDiff, Nat.reduceAdd, Nat.reduceMul, Nat.reduceLeDiff, Int.reduceLE, Int.reduceLT, Int.reduceEq, Int.reduceToNat, Int.reduceAdd, Int.reduceSub, Int.reduceMul, Int.reduceNeg, reduceCtorEq, Option.bind_some, Option.map_some, List.length_cons, List.length_nil, vcM, List.getElem?_toArray, List.getElem?_cons_zero, List.getElem?_cons_succ, hwi])
      (refine W_at c10_ok ?_; refine ⟨_, rfl, ?_⟩; simp (disch := first | omega | assumption | rfl | (simp only [vcS] <;> omega) | fail) only [↓ptV_l, ↓vcA, vcB, ↓vcD, vcE, ↓reduceIte, Nat.reduceEqDiff, Nat.reduceAdd, Nat.reduceMul, Nat.reduceLeDiff, Int.reduceLE, Int.reduceLT, Int.reduceEq, Int.reduceToNat, Int.reduceAdd, Int.reduceSub, Int.reduceMul, Int.reduceNeg, reduceCtorEq, Option.bind_some, Option.map_some, List.length_cons, List.length_nil, vcM, List.getElem?_toArray, List.getElem?_cons_zero, List.getElem?_cons_succ])
      exact hih w' v' _ (by omega) n1 hV2 hds2
  exact L ls.length 0 w3 vo _ (by omega) (by rw [List.take_zero, List.map_nil, List.append_nil]; exact hO3) hR hdis
end Go.Proofs
namespace Go.Proofs
open Go.Vc
set_option maxRecDepth 10000

/-- The sum, and what is written. -/
theorem bech_sum (w0 w : World) (h d : List Int) (m : Bool) (v : Value) (tl : Env) (hE : Ext w0 w) (hb : byt h) (hd : Rd w v d) (hd5 : five d) (hl : h.length + d.length ≤ 1000) :
    W Tryd.prog (Ret fun x w' => x = bechR (bechF h d m, 0) ∧ Ext w0 w') 10 12 ((0, .string (strOf h)) :: (1, v) :: (2, .bool m) :: tl) w := by
  have hsl : (spreadF h).length = 2 * h.length + 1 := by simp [spreadF]; omega
  have hsb : byt (spreadF h) := byt_app (hi_b hb) fun x hx => by
    rcases List.mem_cons.1 hx with rfl | hx
    · omega
    · exact lo_b x hx
  (refine W_at c10_ok ?_; refine ⟨_, rfl, ?_⟩; simp (disch := first | omega | assumption | rfl | (simp only [vcS] <;> omega) | fail) only [↓ptV_l, ↓vcA, vcB, ↓vcD, vcE, ↓reduceIte, Nat.reduceEqDiff, Nat.reduceAdd, Nat.reduceMul, Nat.reduceLeDiff, Int.reduceLE, Int.reduceLT, Int.reduceEq, Int.reduceToNat, Int.reduceAdd, Int.reduceSub, Int.reduceMul, Int.reduceNeg, reduceCtorEq, Option.bind_some, Option.map_some, List.length_cons, List.length_nil, vcM, List.getElem?_toArray, List.getElem?_cons_zero, List.getElem?_cons_succ])
  refine callV_ret (spread_ok w h hb (by omega)) ?_
  rintro u1 w1 hN1
  first | (simp (disch := first | omega | assumption | rfl | (simp only [vcS] <;> omega) | fail) only [↓ptV_l, ↓vcA, vcB, ↓vcD, vcE, ↓reduceIte, Nat.reduceEqDiff, Nat.reduceAdd, Nat.reduceMul, Nat.reduceLeDiff, Int.reduceLE, Int.reduceLT, Int.reduceEq, Int.reduceToNat, Int.reduceAdd, Int.reduceSub, Int.reduceMul, Int.reduceNeg, reduceCtorEq, Option.bind_some, Option.map_some, List.length_cons, List.length_nil, vcM, List.getElem?_toArray, List.getElem?_cons_zero, List.getElem?_cons_succ]) | skip
  refine appN hN1 (hd.ext hN1.ext) (by omega) fun v2 w2 hN2 _ _ => ?_
  first | (simp (disch := first | omega | assumption | rfl | (simp only [vcS] <;> omega) | fail) only [↓ptV_l, ↓vcA, vcB, ↓vcD, vcE, ↓reduceIte, Nat.reduceEqDiff, Nat.reduceAdd, Nat.reduceMul, Nat.reduceLeDiff, Int.reduceLE, Int.reduceLT, Int.reduceEq, Int.reduceToNat, Int.reduceAdd, Int.reduceSub, Int.reduceMul, Int.reduceNeg, reduceCtorEq, Option.bind_some, Option.map_some, List.length_cons, List.length_nil, vcM, List.getElem?_toArray, List.getElem?_cons_zero, List.getElem?_cons_succ]) | skip
  (refine W_at c10_ok ?_; refine ⟨_, rfl, ?_⟩; simp (disch := first | omega | assumption | rfl | (simp only [vcS] <;> omega) | fail) only [↓ptV_l, ↓vcA, vcB, ↓vcD, vcE, ↓reduceIte, Nat.reduceEqDiff, Nat.reduceAdd, Nat.reduceMul, Nat.reduceLeDiff, Int.reduceLE, Int.reduceLT, Int.reduceEq, Int.reduceToNat, Int.reduceAdd, Int.reduceSub, Int.reduceMul, Int.reduceNeg, reduceCtorEq, Option.bind_some, Option.map_some, List.length_cons, List.length_nil, vcM, List.getElem?_toArray, List.getElem?_cons_zero, List.getElem?_cons_succ])
  refine callV_ret (bech_ok w2) ?_
  rintro _ w3 ⟨rfl, hE3⟩
  first | (simp (disch := first | omega | assumption | rfl | (simp only [vcS] <;> omega) | fail) only [↓ptV_l, ↓vcA, vcB, ↓vcD, vcE, ↓reduceIte, Nat.reduceEqDiff, Nat.reduceAdd, Nat.reduceMul, Nat.reduceLeDiff, Int.reduceLE, Int.reduceLT, Int.reduceEq, Int.reduceToNat, Int.reduceAdd, Int.reduceSub, Int.reduceMul, Int.reduceNeg, reduceCtorEq, Option.bind_some, Option.map_some, List.length_cons, List.length_nil, vcM, List.getElem?_toArray, List.getElem?_cons_zero, List.getElem?_cons_succ]) | skip
  refine callV_ret (run_ok w3 25 bechG v2 (spreadF h ++ d) 6 (by decide) rfl (hN2.own.rd.ext hE3) (byt_app hsb (five_byt hd5)) (by rw [List.length_append]; omega) (by decide)) ?_
  rintro _ w4 ⟨rfl, hE4⟩
  first | (simp (disch := first | omega | assumption | rfl | (simp only [vcS] <;> omega) | fail) only [↓ptV_l, ↓vcA, vcB, ↓vcD, vcE, ↓reduceIte, Nat.reduceEqDiff, Nat.reduceAdd, Nat.reduceMul, Nat.reduceLeDiff, Int.reduceLE, Int.reduceLT, Int.reduceEq, Int.reduceToNat, Int.reduceAdd, Int.reduceSub, Int.reduceMul, Int.reduceNeg, reduceCtorEq, Option.bind_some, Option.map_some, List.length_cons, List.length_nil, vcM, List.getElem?_toArray, List.getElem?_cons_zero, List.getElem?_cons_succ]) | skip
  refine callV_ret (constant_ok w4 m) ?_
  rintro _ wq ⟨rfl, hw⟩
  obtain rfl : w4 = wq := hw.symm
  first | (simp (disch := first | omega | assumption | rfl | (simp only [vcS] <;> omega) | fail) only [↓ptV_l, ↓vcA, vcB, ↓vcD, vcE, ↓reduceIte, Nat.reduceEqDiff, Nat.reduceAdd, Nat.reduceMul, Nat.reduceLeDiff, Int.reduceLE, Int.reduceLT, Int.reduceEq, Int.reduceToNat, Int.reduceAdd, Int.reduceSub, Int.reduceMul, Int.reduceNeg, reduceCtorEq, Option.bind_some, Option.map_some, List.length_cons, List.length_nil, vcM, List.getElem?_toArray, List.getElem?_cons_zero, List.getElem?_cons_succ, U64_xor]) | skip
  refine callV_ret (letters_ok w4 (sumX h d m) 6 (by decide)) ?_
  rintro u5 w5 hL
  first | (simp (disch := first | omega | assumption | rfl | (simp only [vcS] <;> omega) | fail) only [↓ptV_l, ↓vcA, vcB, ↓vcD, vcE, ↓reduceIte, Nat.reduceEqDiff, Nat.reduceAdd, Nat.reduceMul, Nat.reduceLeDiff, Int.reduceLE, Int.reduceLT, Int.reduceEq, Int.reduceToNat, Int.reduceAdd, Int.reduceSub, Int.reduceMul, Int.reduceNeg, reduceCtorEq, Option.bind_some, Option.map_some, List.length_cons, List.length_nil, vcM, List.getElem?_toArray, List.getElem?_cons_zero, List.getElem?_cons_succ]) | skip
  have hE5 : Ext w w5 := ((hN2.ext.ext hE3).ext hE4).ext hL.ext
  exact bech_write w0 w5 h d m u5 v _ (hE.trans hE5 fun _ _ h => h) hb (hd.ext hE5) hd5 hl hL.own.rd
set_option maxHeartbeats 1000000 in
theorem bech32_ok (w : World) (h d : List Int) (m : Bool) (v : Value) (hb : byt h) (hm : h.length ≤ maxLen) (hd : Rd w v d) (hdb : byt d) (hdl : d.length ≤ 1000000) :
    Calls Tryd.prog 10 #[.string (strOf h), v, .bool m] w (Ret fun x w' => x = bechR (bechE h d m) ∧ Ext w w') := by
  refine calls_of_cfg c10_ok (Nat.le_of_ble_eq_true rfl) ?_
  simp only [argE_nil, argE_cons, Nat.reduceAdd, Nat.zero_add]
  have hsz := str_size h
  have hlen := hd.len
  have hml : maxLen = 9223372036854775807 := rfl
  have size : 83 < h.length ∨ 90 < h.length + 1 + d.length + 6 → ∀ tl, W Tryd.prog (Ret fun x w' => x = bechR (bechE h d m) ∧ Ext w w') 10 34 ((0, .string (strOf h)) :: (1, v) :: (2, .bool m) :: (29, .bool true) :: tl) w := fun hc tl => by
    rw [bechE, if_pos hc]
    (refine W_at c10_ok ?_; refine ⟨_, rfl, ?_⟩; simp (disch := first | omega | assumption | rfl | (simp only [vcS] <;> omega) | fail) only [↓ptV_l, ↓vcA, vcB, ↓vcD, vcE, ↓reduceIte, Nat.reduceEqDiff, Nat.reduceAdd, Nat.reduceMul, Nat.reduceLeDiff, Int.reduceLE, Int.reduceLT, Int.reduceEq, Int.reduceToNat, Int.reduceAdd, Int.reduceSub, Int.reduceMul, Int.reduceNeg, reduceCtorEq, Option.bind_some, Option.map_some, List.length_cons, List.length_nil, vcM, List.getElem?_toArray, List.getElem?_cons_zero, List.getElem?_cons_succ])
    (refine W_at c10_ok ?_; refine ⟨_, rfl, ?_⟩; simp (disch := first | omega | assumption | rfl | (simp only [vcS] <;> omega) | fail) only [↓ptV_l, ↓vcA, vcB, ↓vcD, vcE, ↓reduceIte, Nat.reduceEqDiff, Nat.reduceAdd, Nat.reduceMul, Nat.reduceLeDiff, Int.reduceLE, Int.reduceLT, Int.reduceEq, Int.reduceToNat, Int.reduceAdd, Int.reduceSub, Int.reduceMul, Int.reduceNeg, reduceCtorEq, Option.bind_some, Option.map_some, List.length_cons, List.length_nil, vcM, List.getElem?_toArray, List.getElem?_cons_zero, List.getElem?_cons_succ])
    (refine W_at c10_ok ?_; refine ⟨_, rfl, ?_⟩; simp (disch := first | omega | assumption | rfl | (simp only [vcS] <;> omega) | fail) only [↓ptV_l, ↓vcA, vcB, ↓vcD, vcE, ↓reduceIte, Nat.reduceEqDiff, Nat.reduceAdd, Nat.reduceMul, Nat.reduceLeDiff, Int.reduceLE, Int.reduceLT, Int.reduceEq, Int.reduceToNat, Int.reduceAdd, Int.reduceSub, Int.reduceMul, Int.reduceNeg, reduceCtorEq, Option.bind_some, Option.map_some, List.length_cons, List.length_nil, vcM, List.getElem?_toArray, List.getElem?_cons_zero, List.getElem?_cons_succ, Ret_returned])
    exact ⟨rfl, Keep.refl _ w⟩
  (refine W_at c10_ok ?_; refine ⟨_, rfl, ?_⟩; simp (disch := first | omega | assumption | rfl | (simp only [vcS] <;> omega) | fail) only [↓ptV_l, ↓vcA, vcB, ↓vcD, vcE, ↓reduceIte, Nat.reduceEqDiff, Nat.reduceAdd, Nat.reduceMul, Nat.reduceLeDiff, Int.reduceLE, Int.reduceLT, Int.reduceEq, Int.reduceToNat, Int.reduceAdd, Int.reduceSub, Int.reduceMul, Int.reduceNeg, reduceCtorEq, Option.bind_some, Option.map_some, List.length_cons, List.length_nil, vcM, List.getElem?_toArray, List.getElem?_cons_zero, List.getElem?_cons_succ])
  by_cases c1 : 83 < h.length
  · have k1 : (83 : Int) < (h.length : Int) := by omega
    (refine W_at c10_ok ?_; refine ⟨_, rfl, ?_⟩; simp (disch := first | omega | assumption | rfl | (simp only [vcS] <;> omega) | fail) only [↓ptV_l, ↓vcA, vcB, ↓vcD, vcE, ↓reduceIte, Nat.reduceEqDiff, Nat.reduceAdd, Nat.reduceMul, Nat.reduceLeDiff, Int.reduceLE, Int.reduceLT, Int.reduceEq, Int.reduceToNat, Int.reduceAdd, Int.reduceSub, Int.reduceMul, Int.reduceNeg, reduceCtorEq, Option.bind_some, Option.map_some, List.length_cons, List.length_nil, vcM, List.getElem?_toArray, List.getElem?_cons_zero, List.getElem?_cons_succ, hsz, k1])
    exact size (.inl c1) _
  have k1 : ¬ (83 : Int) < (h.length : Int) := by omega
  have a1 : IntKind.i64.wrap ((h.length : Int) + 1) = ((h.length + 1 : Nat) : Int) := wrap_i64 (by omega) (by omega)
  have a2 : IntKind.i64.wrap (((h.length + 1 : Nat) : Int) + (d.length : Int)) = ((h.length + 1 + d.length : Nat) : Int) := by rw [wrap_i64 (by omega) (by omega)]; omega
  have a3 : IntKind.i64.wrap (((h.length + 1 + d.length : Nat) : Int) + 6) = ((h.length + 1 + d.length + 6 : Nat) : Int) := by rw [wrap_i64 (by omega) (by omega)]; omega
  by_cases c2 : 90 < h.length + 1 + d.length + 6
  · have k2 : (90 : Int) < ((h.length + 1 + d.length + 6 : Nat) : Int) := by omega
    (refine W_at c10_ok ?_; refine ⟨_, rfl, ?_⟩; simp (disch := first | omega | assumption | rfl | (simp only [vcS] <;> omega) | fail) only [↓ptV_l, ↓vcA, vcB, ↓vcD, vcE, ↓reduceIte, Nat.reduceEqDiff, Nat.reduceAdd, Nat.reduceMul, Nat.reduceLeDiff, Int.reduceLE, Int.reduceLT, Int.reduceEq, Int.reduceToNat, Int.reduceAdd, Int.reduceSub, Int.reduceMul, Int.reduceNeg, reduceCtorEq, Option.bind_some, Option.map_some, List.length_cons, List.length_nil, vcM, List.getElem?_toArray, List.getElem?_cons_zero, List.getElem?_cons_succ, hsz, k1, hlen, a1, a2, a3, k2])
    exact size (.inr c2) _
  have k2 : ¬ (90 : Int) < ((h.length + 1 + d.length + 6 : Nat) : Int) := by omega
  have hno : ¬ (83 < h.length ∨ 90 < h.length + 1 + d.length + 6) := by omega
  clear size
  -- behind the loops
  have fin : ∀ (b : Bool) (tl : Env), b = (decide (h = []) || !okH h || bigV d) → W Tryd.prog (Ret fun x w' => x = bechR (bechE h d m) ∧ Ext w w') 10 16 ((0, .string (strOf h)) :: (1, v) :: (2, .bool m) :: (8, .bool b) :: tl) w := fun b tl hbb => by
    rw [bechE, if_neg hno]
    cases b with
    | true =>
      rw [if_pos (by
        have := hbb.symm
        rw [Bool.or_eq_true, Bool.or_eq_true] at this
        rcases this with (h1 | h1) | h1
        · exact .inl (of_decide_eq_true h1)
        · exact .inr (.inl (by simpa using h1))
        · exact .inr (.inr h1))]
      (refine W_at c10_ok ?_; refine ⟨_, rfl, ?_⟩; simp (disch := first | omega | assumption | rfl | (simp only [vcS] <;> omega) | fail) only [↓ptV_l, ↓vcA, vcB, ↓vcD, vcE, ↓reduceIte, Nat.reduceEqDiff, Nat.reduceAdd, Nat.reduceMul, Nat.reduceLeDiff, Int.reduceLE, Int.reduceLT, Int.reduceEq, Int.reduceToNat, Int.reduceAdd, Int.reduceSub, Int.reduceMul, Int.reduceNeg, reduceCtorEq, Option.bind_some, Option.map_some, List.length_cons, List.length_nil, vcM, List.getElem?_toArray, List.getElem?_cons_zero, List.getElem?_cons_succ])
      (refine W_at c10_ok ?_; refine ⟨_, rfl, ?_⟩; simp (disch := first | omega | assumption | rfl | (simp only [vcS] <;> omega) | fail) only [↓ptV_l, ↓vcA, vcB, ↓vcD, vcE, ↓reduceIte, Nat.reduceEqDiff, Nat.reduceAdd, Nat.reduceMul, Nat.reduceLeDiff, Int.reduceLE, Int.reduceLT, Int.reduceEq, Int.reduceToNat, Int.reduceAdd, Int.reduceSub, Int.reduceMul, Int.reduceNeg, reduceCtorEq, Option.bind_some, Option.map_some, List.length_cons, List.length_nil, vcM, List.getElem?_toArray, List.getElem?_cons_zero, List.getElem?_cons_succ])
      (refine W_at c10_ok ?_; refine ⟨_, rfl, ?_⟩; simp (disch := first | omega | assumption | rfl | (simp only [vcS] <;> omega) | fail) only [↓ptV_l, ↓vcA, vcB, ↓vcD, vcE, ↓reduceIte, Nat.reduceEqDiff, Nat.reduceAdd, Nat.reduceMul, Nat.reduceLeDiff, Int.reduceLE, Int.reduceLT, Int.reduceEq, Int.reduceToNat, Int.reduceAdd, Int.reduceSub, Int.reduceMul, Int.reduceNeg, reduceCtorEq, Option.bind_some, Option.map_some, List.length_cons, List.length_nil, vcM, List.getElem?_toArray, List.getElem?_cons_zero, List.getElem?_cons_succ])
      (refine W_at c10_ok ?_; refine ⟨_, rfl, ?_⟩; simp (disch := first | omega | assumption | rfl | (simp only [vcS] <;> omega) | fail) only [↓ptV_l, ↓vcA, vcB, ↓vcD, vcE, ↓reduceIte, Nat.reduceEqDiff, Nat.reduceAdd, Nat.reduceMul, Nat.reduceLeDiff, Int.reduceLE, Int.reduceLT, Int.reduceEq, Int.reduceToNat, Int.reduceAdd, Int.reduceSub, Int.reduceMul, Int.reduceNeg, reduceCtorEq, Option.bind_some, Option.map_some, List.length_cons, List.length_nil, vcM, List.getElem?_toArray, List.getElem?_cons_zero, List.getElem?_cons_succ, Ret_returned])
      exact ⟨rfl, Keep.refl _ w⟩
    | false =>
      have h3 := hbb.symm
      rw [Bool.or_eq_false_iff, Bool.or_eq_false_iff] at h3
      obtain ⟨⟨h1, h2⟩, h3⟩ := h3
      rw [if_neg (by
        rintro (h | h | h)
        · exact of_decide_eq_false h1 h
        · rw [h] at h2; cases h2
        · unfold bigV at h3; rw [h] at h3; cases h3)]
      (refine W_at c10_ok ?_; refine ⟨_, rfl, ?_⟩; simp (disch := first | omega | assumption | rfl | (simp only [vcS] <;> omega) | fail) only [↓ptV_l, ↓vcA, vcB, ↓vcD, vcE, ↓reduceIte, Nat.reduceEqDiff, Nat.reduceAdd, Nat.reduceMul, Nat.reduceLeDiff, Int.reduceLE, Int.reduceLT, Int.reduceEq, Int.reduceToNat, Int.reduceAdd, Int.reduceSub, Int.reduceMul, Int.reduceNeg, reduceCtorEq, Option.bind_some, Option.map_some, List.length_cons, List.length_nil, vcM, List.getElem?_toArray, List.getElem?_cons_zero, List.getElem?_cons_succ])
      (refine W_at c10_ok ?_; refine ⟨_, rfl, ?_⟩; simp (disch := first | omega | assumption | rfl | (simp only [vcS] <;> omega) | fail) only [↓ptV_l, ↓vcA, vcB, ↓vcD, vcE, ↓reduceIte, Nat.reduceEqDiff, Nat.reduceAdd, Nat.reduceMul, Nat.reduceLeDiff, Int.reduceLE, Int.reduceLT, Int.reduceEq, Int.reduceToNat, Int.reduceAdd, Int.reduceSub, Int.reduceMul, Int.reduceNeg, reduceCtorEq, Option.bind_some, Option.map_some, List.length_cons, List.length_nil, vcM, List.getElem?_toArray, List.getElem?_cons_zero, List.getElem?_cons_succ])
      exact bech_sum w w h d m v _ (Keep.refl _ w) hb hd (bigV_five hdb h3) (by omega)
  -- the values
  have L2 : ∀ (k i : Nat) (b : Bool) (tl : Env), k + i = d.length → b = (decide (h = []) || !okH h || bigV (d.take i)) →
      W Tryd.prog (Ret fun x w' => x = bechR (bechE h d m) ∧ Ext w w') 10 22 ((0, .string (strOf h)) :: (1, v) :: (2, .bool m) :: (8, .bool b) :: (63, v) :: (64, .int .i64 d.length) :: (65, .int .i64 i) :: tl) w := by
    intro k
    induction k with
    | zero =>
      intro i b tl hi hbb
      have hil : ¬ ((i : Int) < (d.length : Int)) := by omega
      rw [List.take_of_length_le (by omega)] at hbb
      (refine W_at c10_ok ?_; refine ⟨_, rfl, ?_⟩; simp (disch := first | omega | assumption | rfl | (simp only [vcS] <;> omega) | fail) only [↓ptV_l, ↓vcA, vcB, ↓vcD, vcE, ↓reduceIte, Nat.reduceEqDiff, Nat.reduceAdd, Nat.reduceMul, Nat.reduceLeDiff, Int.reduceLE, Int.reduceLT, Int.reduceEq, Int.reduceToNat, Int.reduceAdd, Int.reduceSub, Int.reduceMul, Int.reduceNeg, reduceCtorEq, Option.bind_some, Option.map_some, List.length_cons, List.length_nil, vcM, List.getElem?_toArray, List.getElem?_cons_zero, List.getElem?_cons_succ, hil])
      (refine W_at c10_ok ?_; refine ⟨_, rfl, ?_⟩; simp (disch := first | omega | assumption | rfl | (simp only [vcS] <;> omega) | fail) only [↓ptV_l, ↓vcA, vcB, ↓vcD, vcE, ↓reduceIte, Nat.reduceEqDiff, Nat.reduceAdd, Nat.reduceMul, Nat.reduceLeDiff, Int.reduceLE, Int.reduceLT, Int.reduceEq, Int.reduceToNat, Int.reduceAdd, Int.reduceSub, Int.reduceMul, Int.reduceNeg, reduceCtorEq, Option.bind_some, Option.map_some, List.length_cons, List.length_nil, vcM, List.getElem?_toArray, List.getElem?_cons_zero, List.getElem?_cons_succ])
      exact fin b _ hbb
    | succ k ih =>
      intro i b tl hi hbb
      have hil : (i : Int) < (d.length : Int) := by omega
      have hi2 : 0 ≤ (i : Int) ∧ (i : Int) < (d.length : Int) := by omega
      have hwi : IntKind.i64.wrap ((i : Int) + 1) = ((i + 1 : Nat) : Int) := wrap_i64 (by omega) (by omega)
      obtain ⟨g, o, c, hv3, hcell⟩ := hd.at (i := i) (by omega)
      have hih := ih (i + 1)
      rw [bigV_take (by omega)] at hih
      have hg : ∀ (b2 : Bool) (tl : Env), b2 = (b || decide (31 < d[i])) → W Tryd.prog (Ret fun x w' => x = bechR (bechE h d m) ∧ Ext w w') 10 18 ((0, .string (strOf h)) :: (1, v) :: (2, .bool m) :: (8, .bool b2) :: (63, v) :: (64, .int .i64 d.length) :: (65, .int .i64 i) :: tl) w := fun b2 tl hb2 => by
        (refine W_at c10_ok ?_; refine ⟨_, rfl, ?_⟩; simp (disch := first | omega | assumption | rfl | (simp only [vcS] <;> omega) | fail) only [↓ptV_l, ↓vcA, vcB, ↓vcD, vcE, ↓reduceIte, Nat.reduceEqDiff, Nat.reduceAdd, Nat.reduceMul, Nat.reduceLeDiff, Int.reduceLE, Int.reduceLT, Int.reduceEq, Int.reduceToNat, Int.reduceAdd, Int.reduceSub, Int.reduceMul, Int.reduceNeg, reduceCtorEq, Option.bind_some, Option.map_some, List.length_cons, List.length_nil, vcM, List.getElem?_toArray, List.getElem?_cons_zero, List.getElem?_cons_succ, hwi])
        (refine W_at c10_ok ?_; refine ⟨_, rfl, ?_⟩; simp (disch := first | omega | assumption | rfl | (simp only [vcS] <;> omega) | fail) only [↓ptV_l, ↓vcA, vcB, ↓vcD, vcE, ↓reduceIte, Nat.reduceEqDiff, Nat.reduceAdd, Nat.reduceMul, Nat.reduceLeDiff, Int.reduceLE, Int.reduceLT, Int.reduceEq, Int.reduceToNat, Int.reduceAdd, Int.reduceSub, Int.reduceMul, Int.reduceNeg, reduceCtorEq, Option.bind_some, Option.map_some, List.length_cons, List.length_nil, vcM, List.getElem?_toArray, List.getElem?_cons_zero, List.getElem?_cons_succ])
        exact hih b2 _ (by omega) (by rw [hb2, hbb, Bool.or_assoc])
      clear hih
      subst hv3
      generalize d[i] = x at *
      (refine W_at c10_ok ?_; refine ⟨_, rfl, ?_⟩; simp (disch := first | omega | assumption | rfl | (simp only [vcS] <;> omega) | fail) only [↓ptV_l, ↓vcA, vcB, ↓vcD, vcE, ↓reduceIte, Nat.reduceEqDiff, Nat.reduceAdd, Nat.reduceMul, Nat.reduceLeDiff, Int.reduceLE, Int.reduceLT, Int.reduceEq, Int.reduceToNat, Int.reduceAdd, Int.reduceSub, Int.reduceMul, Int.reduceNeg, reduceCtorEq, Option.bind_some, Option.map_some, List.length_cons, List.length_nil, vcM, List.getElem?_toArray, List.getElem?_cons_zero, List.getElem?_cons_succ, hil])
      (refine W_at c10_ok ?_; refine ⟨_, rfl, ?_⟩; simp (disch := first | omega | assumption | rfl | (simp only [vcS] <;> omega) | fail) only [↓ptV_l, ↓vcA, vcB, ↓vcD, vcE, ↓reduceIte, Nat.reduceEqDiff, Nat.reduceAdd, Nat.reduceMul, Nat.reduceLeDiff, Int.reduceLE, Int.reduceLT, Int.reduceEq, Int.reduceToNat, Int.reduceAdd, Int.reduceSub, Int.reduceMul, Int.reduceNeg, reduceCtorEq, Option.bind_some, Option.map_some, List.length_cons, List.length_nil, vcM, List.getElem?_toArray, List.getElem?_cons_zero, List.getElem?_cons_succ])
      (refine W_at c10_ok ?_; refine ⟨_, rfl, ?_⟩; simp (disch := first | omega | assumption | rfl | (simp only [vcS] <;> omega) | fail) only [↓ptV_l, ↓vcA, vcB, ↓vcD, vcE, ↓reduceIte, Nat.reduceEqDiff, Nat.reduceAdd, Nat.reduceMul, Nat.reduceLeDiff, Int.reduceLE, Int.reduceLT, Int.reduceEq, Int.reduceToNat, Int.reduceAdd, Int.reduceSub, Int.reduceMul, Int.reduceNeg, reduceCtorEq, Option.bind_some, Option.map_some, List.length_cons, List.length_nil, vcM, List.getElem?_toArray, List.getElem?_cons_zero, List.getElem?_cons_succ, hi2, hcell, Int.toNat_natCast, Nat.mul_one])
      cases b with
      | true =>
        (refine W_at c10_ok ?_; refine ⟨_, rfl, ?_⟩; simp (disch := first | omega | assumption | rfl | (simp only [vcS] <;> omega) | fail) only [↓ptV_l, ↓vcA, vcB, ↓vcD, vcE, ↓reduceIte, Nat.reduceEqDiff, Nat.reduceAdd, Nat.reduceMul, Nat.reduceLeDiff, Int.reduceLE, Int.reduceLT, Int.reduceEq, Int.reduceToNat, Int.reduceAdd, Int.reduceSub, Int.reduceMul, Int.reduceNeg, reduceCtorEq, Option.bind_some, Option.map_some, List.length_cons, List.length_nil, vcM, List.getElem?_toArray, List.getElem?_cons_zero, List.getElem?_cons_succ])
        exact hg true _ rfl
      | false =>
        by_cases hx : 31 < x
        · (refine W_at c10_ok ?_; refine ⟨_, rfl, ?_⟩; simp (disch := first | omega | assumption | rfl | (simp only [vcS] <;> omega) | fail) only [↓ptV_l, ↓vcA, vcB, ↓vcD, vcE, ↓reduceIte, Nat.reduceEqDiff, Nat.reduceAdd, Nat.reduceMul, Nat.reduceLeDiff, Int.reduceLE, Int.reduceLT, Int.reduceEq, Int.reduceToNat, Int.reduceAdd, Int.reduceSub, Int.reduceMul, Int.reduceNeg, reduceCtorEq, Option.bind_some, Option.map_some, List.length_cons, List.length_nil, vcM, List.getElem?_toArray, List.getElem?_cons_zero, List.getElem?_cons_succ, hx])
          exact hg true _ (by rw [decide_eq_true hx]; rfl)
        · (refine W_at c10_ok ?_; refine ⟨_, rfl, ?_⟩; simp (disch := first | omega | assumption | rfl | (simp only [vcS] <;> omega) | fail) only [↓ptV_l, ↓vcA, vcB, ↓vcD, vcE, ↓reduceIte, Nat.reduceEqDiff, Nat.reduceAdd, Nat.reduceMul, Nat.reduceLeDiff, Int.reduceLE, Int.reduceLT, Int.reduceEq, Int.reduceToNat, Int.reduceAdd, Int.reduceSub, Int.reduceMul, Int.reduceNeg, reduceCtorEq, Option.bind_some, Option.map_some, List.length_cons, List.length_nil, vcM, List.getElem?_toArray, List.getElem?_cons_zero, List.getElem?_cons_succ, hx])
          exact hg false _ (by rw [decide_eq_false hx]; rfl)
  -- the part for people
  have L1 : ∀ (k i : Nat) (b : Bool) (tl : Env), k + i = h.length → b = (decide (h = []) || !okH (h.take i)) →
      W Tryd.prog (Ret fun x w' => x = bechR (bechE h d m) ∧ Ext w w') 10 29 ((0, .string (strOf h)) :: (1, v) :: (2, .bool m) :: (8, .bool b) :: (33, .int .i64 h.length) :: (34, .int .i64 i) :: tl) w := by
    intro k
    induction k with
    | zero =>
      intro i b tl hi hbb
      have hil : ¬ ((i : Int) < (h.length : Int)) := by omega
      rw [List.take_of_length_le (by omega)] at hbb
      (refine W_at c10_ok ?_; refine ⟨_, rfl, ?_⟩; simp (disch := first | omega | assumption | rfl | (simp only [vcS] <;> omega) | fail) only [↓ptV_l, ↓vcA, vcB, ↓vcD, vcE, ↓reduceIte, Nat.reduceEqDiff, Nat.reduceAdd, Nat.reduceMul, Nat.reduceLeDiff, Int.reduceLE, Int.reduceLT, Int.reduceEq, Int.reduceToNat, Int.reduceAdd, Int.reduceSub, Int.reduceMul, Int.reduceNeg, reduceCtorEq, Option.bind_some, Option.map_some, List.length_cons, List.length_nil, vcM, List.getElem?_toArray, List.getElem?_cons_zero, List.getElem?_cons_succ, hil])
      (refine W_at c10_ok ?_; refine ⟨_, rfl, ?_⟩; simp (disch := first | omega | assumption | rfl | (simp only [vcS] <;> omega) | fail) only [↓ptV_l, ↓vcA, vcB, ↓vcD, vcE, ↓reduceIte, Nat.reduceEqDiff, Nat.reduceAdd, Nat.reduceMul, Nat.reduceLeDiff, Int.reduceLE, Int.reduceLT, Int.reduceEq, Int.reduceToNat, Int.reduceAdd, Int.reduceSub, Int.reduceMul, Int.reduceNeg, reduceCtorEq, Option.bind_some, Option.map_some, List.length_cons, List.length_nil, vcM, List.getElem?_toArray, List.getElem?_cons_zero, List.getElem?_cons_succ])
      (refine W_at c10_ok ?_; refine ⟨_, rfl, ?_⟩; simp (disch := first | omega | assumption | rfl | (simp only [vcS] <;> omega) | fail) only [↓ptV_l, ↓vcA, vcB, ↓vcD, vcE, ↓reduceIte, Nat.reduceEqDiff, Nat.reduceAdd, Nat.reduceMul, Nat.reduceLeDiff, Int.reduceLE, Int.reduceLT, Int.reduceEq, Int.reduceToNat, Int.reduceAdd, Int.reduceSub, Int.reduceMul, Int.reduceNeg, reduceCtorEq, Option.bind_some, Option.map_some, List.length_cons, List.length_nil, vcM, List.getElem?_toArray, List.getElem?_cons_zero, List.getElem?_cons_succ, hlen])
      exact L2 d.length 0 b _ (by omega) (by rw [List.take_zero]; simp [bigV, hbb])
    | succ k ih =>
      intro i b tl hi hbb
      have hil : (i : Int) < (h.length : Int) := by omega
      have h0 : 0 ≤ (i : Int) := by omega
      have hwi : IntKind.i64.wrap ((i : Int) + 1) = ((i + 1 : Nat) : Int) := wrap_i64 (by omega) (by omega)
      have g1 := str_get (bs := h) (i := i) (by omega)
      have u1 := u8i (hb h[i] (List.getElem_mem _))
      have hih := ih (i + 1)
      rw [okH_take (by omega)] at hih
      have hg : ∀ (b2 : Bool) (tl : Env), b2 = (b || !okc h[i]) → W Tryd.prog (Ret fun x w' => x = bechR (bechE h d m) ∧ Ext w w') 10 25 ((0, .string (strOf h)) :: (1, v) :: (2, .bool m) :: (8, .bool b2) :: (33, .int .i64 h.length) :: (34, .int .i64 i) :: tl) w := fun b2 tl hb2 => by
        (refine W_at c10_ok ?_; refine ⟨_, rfl, ?_⟩; simp (disch := first | omega | assumption | rfl | (simp only [vcS] <;> omega) | fail) only [↓ptV_l, ↓vcA, vcB, ↓vcD, vcE, ↓reduceIte, Nat.reduceEqDiff, Nat.reduceAdd, Nat.reduceMul, Nat.reduceLeDiff, Int.reduceLE, Int.reduceLT, Int.reduceEq, Int.reduceToNat, Int.reduceAdd, Int.reduceSub, Int.reduceMul, Int.reduceNeg, reduceCtorEq, Option.bind_some, Option.map_some, List.length_cons, List.length_nil, vcM, List.getElem?_toArray, List.getElem?_cons_zero, List.getElem?_cons_succ, hwi])
        (refine W_at c10_ok ?_; refine ⟨_, rfl, ?_⟩; simp (disch := first | omega | assumption | rfl | (simp only [vcS] <;> omega) | fail) only [↓ptV_l, ↓vcA, vcB, ↓vcD, vcE, ↓reduceIte, Nat.reduceEqDiff, Nat.reduceAdd, Nat.reduceMul, Nat.reduceLeDiff, Int.reduceLE, Int.reduceLT, Int.reduceEq, Int.reduceToNat, Int.reduceAdd, Int.reduceSub, Int.reduceMul, Int.reduceNeg, reduceCtorEq, Option.bind_some, Option.map_some, List.length_cons, List.length_nil, vcM, List.getElem?_toArray, List.getElem?_cons_zero, List.getElem?_cons_succ])
        exact hih b2 _ (by omega) (by rw [hb2, hbb]; cases decide (h = []) <;> cases okH (h.take i) <;> cases okc h[i] <;> rfl)
      clear hih
      generalize h[i] = x at *
      (refine W_at c10_ok ?_; refine ⟨_, rfl, ?_⟩; simp (disch := first | omega | assumption | rfl | (simp only [vcS] <;> omega) | fail) only [↓ptV_l, ↓vcA, vcB, ↓vcD, vcE, ↓reduceIte, Nat.reduceEqDiff, Nat.reduceAdd, Nat.reduceMul, Nat.reduceLeDiff, Int.reduceLE, Int.reduceLT, Int.reduceEq, Int.reduceToNat, Int.reduceAdd, Int.reduceSub, Int.reduceMul, Int.reduceNeg, reduceCtorEq, Option.bind_some, Option.map_some, List.length_cons, List.length_nil, vcM, List.getElem?_toArray, List.getElem?_cons_zero, List.getElem?_cons_succ, hil])
      (refine W_at c10_ok ?_; refine ⟨_, rfl, ?_⟩; simp (disch := first | omega | assumption | rfl | (simp only [vcS] <;> omega) | fail) only [↓ptV_l, ↓vcA, vcB, ↓vcD, vcE, ↓reduceIte, Nat.reduceEqDiff, Nat.reduceAdd, Nat.reduceMul, Nat.reduceLeDiff, Int.reduceLE, Int.reduceLT, Int.reduceEq, Int.reduceToNat, Int.reduceAdd, Int.reduceSub, Int.reduceMul, Int.reduceNeg, reduceCtorEq, Option.bind_some, Option.map_some, List.length_cons, List.length_nil, vcM, List.getElem?_toArray, List.getElem?_cons_zero, List.getElem?_cons_succ])
      (refine W_at c10_ok ?_; refine ⟨_, rfl, ?_⟩; simp (disch := first | omega | assumption | rfl | (simp only [vcS] <;> omega) | fail) only [↓ptV_l, ↓vcA, vcB, ↓vcD, vcE, ↓reduceIte, Nat.reduceEqDiff, Nat.reduceAdd, Nat.reduceMul, Nat.reduceLeDiff, Int.reduceLE, Int.reduceLT, Int.reduceEq, Int.reduceToNat, Int.reduceAdd, Int.reduceSub, Int.reduceMul, Int.reduceNeg, reduceCtorEq, Option.bind_some, Option.map_some, List.length_cons, List.length_nil, vcM, List.getElem?_toArray, List.getElem?_cons_zero, List.getElem?_cons_succ])
      cases b with
      | true =>
        (refine W_at c10_ok ?_; refine ⟨_, rfl, ?_⟩; simp (disch := first | omega | assumption | rfl | (simp only [vcS] <;> omega) | fail) only [↓ptV_l, ↓vcA, vcB, ↓vcD, vcE, ↓reduceIte, Nat.reduceEqDiff, Nat.reduceAdd, Nat.reduceMul, Nat.reduceLeDiff, Int.reduceLE, Int.reduceLT, Int.reduceEq, Int.reduceToNat, Int.reduceAdd, Int.reduceSub, Int.reduceMul, Int.reduceNeg, reduceCtorEq, Option.bind_some, Option.map_some, List.length_cons, List.length_nil, vcM, List.getElem?_toArray, List.getElem?_cons_zero, List.getElem?_cons_succ])
        exact hg true _ rfl
      | false =>
        by_cases x1 : x < 33
        · (refine W_at c10_ok ?_; refine ⟨_, rfl, ?_⟩; simp (disch := first | omega | assumption | rfl | (simp only [vcS] <;> omega) | fail) only [↓ptV_l, ↓vcA, vcB, ↓vcD, vcE, ↓reduceIte, Nat.reduceEqDiff, Nat.reduceAdd, Nat.reduceMul, Nat.reduceLeDiff, Int.reduceLE, Int.reduceLT, Int.reduceEq, Int.reduceToNat, Int.reduceAdd, Int.reduceSub, Int.reduceMul, Int.reduceNeg, reduceCtorEq, Option.bind_some, Option.map_some, List.length_cons, List.length_nil, vcM, List.getElem?_toArray, List.getElem?_cons_zero, List.getElem?_cons_succ, h0, Int.toNat_natCast, g1, u1, x1])
          exact hg true _ (by simp [okc]; omega)
        by_cases x2 : 126 < x
        · (refine W_at c10_ok ?_; refine ⟨_, rfl, ?_⟩; simp (disch := first | omega | assumption | rfl | (simp only [vcS] <;> omega) | fail) only [↓ptV_l, ↓vcA, vcB, ↓vcD, vcE, ↓reduceIte, Nat.reduceEqDiff, Nat.reduceAdd, Nat.reduceMul, Nat.reduceLeDiff, Int.reduceLE, Int.reduceLT, Int.reduceEq, Int.reduceToNat, Int.reduceAdd, Int.reduceSub, Int.reduceMul, Int.reduceNeg, reduceCtorEq, Option.bind_some, Option.map_some, List.length_cons, List.length_nil, vcM, List.getElem?_toArray, List.getElem?_cons_zero, List.getElem?_cons_succ, h0, Int.toNat_natCast, g1, u1, x1, x2])
          exact hg true _ (by simp [okc]; omega)
        by_cases x3 : 65 ≤ x
        · by_cases x4 : x ≤ 90
          · (refine W_at c10_ok ?_; refine ⟨_, rfl, ?_⟩; simp (disch := first | omega | assumption | rfl | (simp only [vcS] <;> omega) | fail) only [↓ptV_l, ↓vcA, vcB, ↓vcD, vcE, ↓reduceIte, Nat.reduceEqDiff, Nat.reduceAdd, Nat.reduceMul, Nat.reduceLeDiff, Int.reduceLE, Int.reduceLT, Int.reduceEq, Int.reduceToNat, Int.reduceAdd, Int.reduceSub, Int.reduceMul, Int.reduceNeg, reduceCtorEq, Option.bind_some, Option.map_some, List.length_cons, List.length_nil, vcM, List.getElem?_toArray, List.getElem?_cons_zero, List.getElem?_cons_succ, h0, Int.toNat_natCast, g1, u1, x1, x2, x3, x4])
            exact hg true _ (by simp [okc]; omega)
          · (refine W_at c10_ok ?_; refine ⟨_, rfl, ?_⟩; simp (disch := first | omega | assumption | rfl | (simp only [vcS] <;> omega) | fail) only [↓ptV_l, ↓vcA, vcB, ↓vcD, vcE, ↓reduceIte, Nat.reduceEqDiff, Nat.reduceAdd, Nat.reduceMul, Nat.reduceLeDiff, Int.reduceLE, Int.reduceLT, Int.reduceEq, Int.reduceToNat, Int.reduceAdd, Int.reduceSub, Int.reduceMul, Int.reduceNeg, reduceCtorEq, Option.bind_some, Option.map_some, List.length_cons, List.length_nil, vcM, List.getElem?_toArray, List.getElem?_cons_zero, List.getElem?_cons_succ, h0, Int.toNat_natCast, g1, u1, x1, x2, x3, x4])
            exact hg false _ (by simp [okc]; omega)
        · (refine W_at c10_ok ?_; refine ⟨_, rfl, ?_⟩; simp (disch := first | omega | assumption | rfl | (simp only [vcS] <;> omega) | fail) only [↓ptV_l, ↓vcA, vcB, ↓vcD, vcE, ↓reduceIte, Nat.reduceEqDiff, Nat.reduceAdd, Nat.reduceMul, Nat.reduceLeDiff, Int.reduceLE, Int.reduceLT, Int.reduceEq, Int.reduceToNat, Int.reduceAdd, Int.reduceSub, Int.reduceMul, Int.reduceNeg, reduceCtorEq, Option.bind_some, Option.map_some, List.length_cons, List.length_nil, vcM, List.getElem?_toArray, List.getElem?_cons_zero, List.getElem?_cons_succ, h0, Int.toNat_natCast, g1, u1, x1, x2, x3])
          exact hg false _ (by simp [okc]; omega)
  have start : ∀ b, b = decide (h = []) → ∀ tl, W Tryd.prog (Ret fun x w' => x = bechR (bechE h d m) ∧ Ext w w') 10 30 ((0, .string (strOf h)) :: (1, v) :: (2, .bool m) :: (8, .bool b) :: tl) w := fun b hbb tl => by
    (refine W_at c10_ok ?_; refine ⟨_, rfl, ?_⟩; simp (disch := first | omega | assumption | rfl | (simp only [vcS] <;> omega) | fail) only [↓ptV_l, ↓vcA, vcB, ↓vcD, vcE, ↓reduceIte, Nat.reduceEqDiff, Nat.reduceAdd, Nat.reduceMul, Nat.reduceLeDiff, Int.reduceLE, Int.reduceLT, Int.reduceEq, Int.reduceToNat, Int.reduceAdd, Int.reduceSub, Int.reduceMul, Int.reduceNeg, reduceCtorEq, Option.bind_some, Option.map_some, List.length_cons, List.length_nil, vcM, List.getElem?_toArray, List.getElem?_cons_zero, List.getElem?_cons_succ, hsz])
    exact L1 h.length 0 b _ (by omega) (by rw [List.take_zero]; simp [okH, hbb])
  (refine W_at c10_ok ?_; refine ⟨_, rfl, ?_⟩; simp (disch := first | omega | assumption | rfl | (simp only [vcS] <;> omega) | fail) only [↓ptV_l, ↓vcA, vcB, ↓vcD, vcE, ↓reduceIte, Nat.reduceEqDiff, Nat.reduceAdd, Nat.reduceMul, Nat.reduceLeDiff, Int.reduceLE, Int.reduceLT, Int.reduceEq, Int.reduceToNat, Int.reduceAdd, Int.reduceSub, Int.reduceMul, Int.reduceNeg, reduceCtorEq, Option.bind_some, Option.map_some, List.length_cons, List.length_nil, vcM, List.getElem?_toArray, List.getElem?_cons_zero, List.getElem?_cons_succ, hsz, k1, hlen, a1, a2, a3, k2])
  (refine W_at c10_ok ?_; refine ⟨_, rfl, ?_⟩; simp (disch := first | omega | assumption | rfl | (simp only [vcS] <;> omega) | fail) only [↓ptV_l, ↓vcA, vcB, ↓vcD, vcE, ↓reduceIte, Nat.reduceEqDiff, Nat.reduceAdd, Nat.reduceMul, Nat.reduceLeDiff, Int.reduceLE, Int.reduceLT, Int.reduceEq, Int.reduceToNat, Int.reduceAdd, Int.reduceSub, Int.reduceMul, Int.reduceNeg, reduceCtorEq, Option.bind_some, Option.map_some, List.length_cons, List.length_nil, vcM, List.getElem?_toArray, List.getElem?_cons_zero, List.getElem?_cons_succ])
  have hnil : decide (strOf h = ⟨#[]⟩) = decide (h = []) := by
    have e : (⟨#[]⟩ : ByteArray) = strOf [] := rfl
    rw [e]
    exact decide_eq_decide.2 (strOf_inj hb byt_nil)
  (refine W_at c10_ok ?_; refine ⟨_, rfl, ?_⟩; simp (disch := first | omega | assumption | rfl | (simp only [vcS] <;> omega) | fail) only [↓ptV_l, ↓vcA, vcB, ↓vcD, vcE, ↓reduceIte, Nat.reduceEqDiff, Nat.reduceAdd, Nat.reduceMul, Nat.reduceLeDiff, Int.reduceLE, Int.reduceLT, Int.reduceEq, Int.reduceToNat, Int.reduceAdd, Int.reduceSub, Int.reduceMul, Int.reduceNeg, reduceCtorEq, Option.bind_some, Option.map_some, List.length_cons, List.length_nil, vcM, List.getElem?_toArray, List.getElem?_cons_zero, List.getElem?_cons_succ, hnil])
  exact start _ rfl _
end Go.Proofs
