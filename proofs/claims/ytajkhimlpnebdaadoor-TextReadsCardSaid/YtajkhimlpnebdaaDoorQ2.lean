/- Laws that the last text of this claim uses, part 2: written for it, merged by program. -/
import Derived.Test.YtajkhimlpnebdaaDoorQ1
set_option linter.unusedSimpArgs false
set_option linter.unusedVariables false
set_option linter.constructorNameAsVariable false
namespace Go.Proofs
open Go.Vc
set_option maxRecDepth 10000

theorem places_take {bs : List Int} {i : Nat} (h : i < bs.length) : (placesF (bs.take (i + 1))).foldl stepV ([], []) = stepV ((placesF (bs.take i)).foldl stepV ([], [])) (placeF bs[i] inS 0) := by
  rw [List.take_succ_eq_append_getElem h]
  simp only [placesF, List.map_append, List.foldl_append, List.map_cons, List.map_nil, List.foldl_cons, List.foldl_nil]
set_option maxHeartbeats 1600000 in
theorem checksum_ok (w : World) (bs : List Int) (hb : byt bs) (hl : bs.length ≤ 100000) :
    Calls Tryd.prog 21 #[.string (strOf bs)] w (Ret fun u w' => u = .tuple #[.string (strOf ((checkF bs).getD [])), .int .i64 (if checkF bs = none then 3 else 0)] ∧ Ext w w') := by
  refine calls_of_cfg c21_ok (Nat.le_of_ble_eq_true rfl) ?_
  simp only [argE_nil, argE_cons, Nat.reduceAdd, Nat.zero_add]
  have hsz := str_size bs
  (refine W_at c21_ok ?_; refine ⟨_, rfl, ?_⟩; simp (disch := first | omega | assumption | rfl | (simp only [vcS] <;> omega) | fail) only [↓ptV_l, ↓vcA, vcB, ↓vcD, vcE, ↓reduceIte, Nat.reduceEqDiff, Nat.reduceAdd, Nat.reduceMul, Nat.reduceLeDiff, Int.reduceLE, Int.reduceLT, Int.reduceEq, Int.reduceToNat, Int.reduceAdd, Int.reduceSub, Int.reduceMul, Int.reduceNeg, reduceCtorEq, Option.bind_some, Option.map_some, List.length_cons, List.length_nil, vcM, List.getElem?_toArray, List.getElem?_cons_zero, List.getElem?_cons_succ])
  (refine W_at c21_ok ?_; refine ⟨_, rfl, ?_⟩; simp (disch := first | omega | assumption | rfl | (simp only [vcS] <;> omega) | fail) only [↓ptV_l, ↓vcA, vcB, ↓vcD, vcE, ↓reduceIte, Nat.reduceEqDiff, Nat.reduceAdd, Nat.reduceMul, Nat.reduceLeDiff, Int.reduceLE, Int.reduceLT, Int.reduceEq, Int.reduceToNat, Int.reduceAdd, Int.reduceSub, Int.reduceMul, Int.reduceNeg, reduceCtorEq, Option.bind_some, Option.map_some, List.length_cons, List.length_nil, vcM, List.getElem?_toArray, List.getElem?_cons_zero, List.getElem?_cons_succ])
  (refine W_at c21_ok ?_; refine ⟨_, rfl, ?_⟩; simp (disch := first | omega | assumption | rfl | (simp only [vcS] <;> omega) | fail) only [↓ptV_l, ↓vcA, vcB, ↓vcD, vcE, ↓reduceIte, Nat.reduceEqDiff, Nat.reduceAdd, Nat.reduceMul, Nat.reduceLeDiff, Int.reduceLE, Int.reduceLT, Int.reduceEq, Int.reduceToNat, Int.reduceAdd, Int.reduceSub, Int.reduceMul, Int.reduceNeg, reduceCtorEq, Option.bind_some, Option.map_some, List.length_cons, List.length_nil, vcM, List.getElem?_toArray, List.getElem?_cons_zero, List.getElem?_cons_succ, hsz])
  -- behind the values
  have tail : ∀ (wj : World) (vv : Value) (vs : List Int) (tl : Env), New w wj vv vs → byt vs → vs.length ≤ 500000 → checkF bs = some ((lettersF (runB 35 descG (vs ++ List.replicate 8 0) ^^^ 1#64) 8).map l32F) →
      W Tryd.prog (Ret fun u w' => u = .tuple #[.string (strOf ((checkF bs).getD [])), .int .i64 (if checkF bs = none then 3 else 0)] ∧ Ext w w') 21 10 ((4, vv) :: tl) wj := by
    intro wj vv vs tl hN hvb hvl hc
    (refine W_at c21_ok ?_; refine ⟨_, rfl, ?_⟩; simp (disch := first | omega | assumption | rfl | (simp only [vcS] <;> omega) | fail) only [↓ptV_l, ↓vcA, vcB, ↓vcD, vcE, ↓reduceIte, Nat.reduceEqDiff, Nat.reduceAdd, Nat.reduceMul, Nat.reduceLeDiff, Int.reduceLE, Int.reduceLT, Int.reduceEq, Int.reduceToNat, Int.reduceAdd, Int.reduceSub, Int.reduceMul, Int.reduceNeg, reduceCtorEq, Option.bind_some, Option.map_some, List.length_cons, List.length_nil, vcM, List.getElem?_toArray, List.getElem?_cons_zero, List.getElem?_cons_succ])
    (refine W_at c21_ok ?_; refine ⟨_, rfl, ?_⟩; simp (disch := first | omega | assumption | rfl | (simp only [vcS] <;> omega) | fail) only [↓ptV_l, ↓vcA, vcB, ↓vcD, vcE, ↓reduceIte, Nat.reduceEqDiff, Nat.reduceAdd, Nat.reduceMul, Nat.reduceLeDiff, Int.reduceLE, Int.reduceLT, Int.reduceEq, Int.reduceToNat, Int.reduceAdd, Int.reduceSub, Int.reduceMul, Int.reduceNeg, reduceCtorEq, Option.bind_some, Option.map_some, List.length_cons, List.length_nil, vcM, List.getElem?_toArray, List.getElem?_cons_zero, List.getElem?_cons_succ])
    refine callV_ret (descs_ok wj) ?_
    rintro _ w1 ⟨rfl, hE1⟩
    first | (simp (disch := first | omega | assumption | rfl | (simp only [vcS] <;> omega) | fail) only [↓ptV_l, ↓vcA, vcB, ↓vcD, vcE, ↓reduceIte, Nat.reduceEqDiff, Nat.reduceAdd, Nat.reduceMul, Nat.reduceLeDiff, Int.reduceLE, Int.reduceLT, Int.reduceEq, Int.reduceToNat, Int.reduceAdd, Int.reduceSub, Int.reduceMul, Int.reduceNeg, reduceCtorEq, Option.bind_some, Option.map_some, List.length_cons, List.length_nil, vcM, List.getElem?_toArray, List.getElem?_cons_zero, List.getElem?_cons_succ]) | skip
    refine callV_ret (run_ok w1 35 descG vv vs 8 (by decide) rfl (hN.own.rd.ext hE1) hvb (by omega) (by decide)) ?_
    rintro _ w2 ⟨rfl, hE2⟩
    simp (disch := first | omega | assumption | rfl | (simp only [vcS] <;> omega) | fail) only [↓ptV_l, ↓vcA, vcB, ↓vcD, vcE, ↓reduceIte, Nat.reduceEqDiff, Nat.reduceAdd, Nat.reduceMul, Nat.reduceLeDiff, Int.reduceLE, Int.reduceLT, Int.reduceEq, Int.reduceToNat, Int.reduceAdd, Int.reduceSub, Int.reduceMul, Int.reduceNeg, reduceCtorEq, Option.bind_some, Option.map_some, List.length_cons, List.length_nil, vcM, List.getElem?_toArray, List.getElem?_cons_zero, List.getElem?_cons_succ, U64_xor1]
    refine callV_ret (letters_ok w2 (runB 35 descG (vs ++ List.replicate 8 0) ^^^ 1#64) 8 (by decide)) ?_
    rintro u w3 hL
    have hE3 := ((hN.ext.ext hE1).ext hE2).ext hL.ext
    have hlen := hL.own.rd.len
    have hll : (lettersF (runB 35 descG (vs ++ List.replicate 8 0) ^^^ 1#64) 8).length = 8 := by simp [lettersF]
    have hlb : ∀ x ∈ lettersF (runB 35 descG (vs ++ List.replicate 8 0) ^^^ 1#64) 8, 0 ≤ x ∧ x ≤ 31 := fun x hx => by
      obtain ⟨j, _, rfl⟩ := List.mem_map.1 hx
      have := and31_lt ((runB 35 descG (vs ++ List.replicate 8 0) ^^^ 1#64) >>> (5 * (8 - 1 - j)))
      omega
    have hR := hL.own.rd
    generalize lettersF (runB 35 descG (vs ++ List.replicate 8 0) ^^^ 1#64) 8 = ls at *
    rw [hll] at hlen
    simp (disch := first | omega | assumption | rfl | (simp only [vcS] <;> omega) | fail) only [↓ptV_l, ↓vcA, vcB, ↓vcD, vcE, ↓reduceIte, Nat.reduceEqDiff, Nat.reduceAdd, Nat.reduceMul, Nat.reduceLeDiff, Int.reduceLE, Int.reduceLT, Int.reduceEq, Int.reduceToNat, Int.reduceAdd, Int.reduceSub, Int.reduceMul, Int.reduceNeg, reduceCtorEq, Option.bind_some, Option.map_some, List.length_cons, List.length_nil, vcM, List.getElem?_toArray, List.getElem?_cons_zero, List.getElem?_cons_succ, hlen]
    have L : ∀ (k i : Nat) (wj : World) (vb : Value) (tl : Env), k + i = 8 → New w3 wj vb ((ls.take i).map l32F) →
        W Tryd.prog (Ret fun u w' => u = .tuple #[.string (strOf ((checkF bs).getD [])), .int .i64 (if checkF bs = none then 3 else 0)] ∧ Ext w w') 21 8 ((8, vb) :: (81, u) :: (82, .int .i64 8) :: (83, .int .i64 i) :: tl) wj := by
      intro k
      induction k with
      | zero =>
        intro i wj vb tl hi hB
        have hil : ¬ ((i : Int) < 8) := by omega
        rw [List.take_of_length_le (by omega)] at hB
        have hs := hB.own.rd.b2s
        (refine W_at c21_ok ?_; refine ⟨_, rfl, ?_⟩; simp (disch := first | omega | assumption | rfl | (simp only [vcS] <;> omega) | fail) only [↓ptV_l, ↓vcA, vcB, ↓vcD, vcE, ↓reduceIte, Nat.reduceEqDiff, Nat.reduceAdd, Nat.reduceMul, Nat.reduceLeDiff, Int.reduceLE, Int.reduceLT, Int.reduceEq, Int.reduceToNat, Int.reduceAdd, Int.reduceSub, Int.reduceMul, Int.reduceNeg, reduceCtorEq, Option.bind_some, Option.map_some, List.length_cons, List.length_nil, vcM, List.getElem?_toArray, List.getElem?_cons_zero, List.getElem?_cons_succ, hil])
        (refine W_at c21_ok ?_; refine ⟨_, rfl, ?_⟩; simp (disch := first | omega | assumption | rfl | (simp only [vcS] <;> omega) | fail) only [↓ptV_l, ↓vcA, vcB, ↓vcD, vcE, ↓reduceIte, Nat.reduceEqDiff, Nat.reduceAdd, Nat.reduceMul, Nat.reduceLeDiff, Int.reduceLE, Int.reduceLT, Int.reduceEq, Int.reduceToNat, Int.reduceAdd, Int.reduceSub, Int.reduceMul, Int.reduceNeg, reduceCtorEq, Option.bind_some, Option.map_some, List.length_cons, List.length_nil, vcM, List.getElem?_toArray, List.getElem?_cons_zero, List.getElem?_cons_succ])
        (refine W_at c21_ok ?_; refine ⟨_, rfl, ?_⟩; simp (disch := first | omega | assumption | rfl | (simp only [vcS] <;> omega) | fail) only [↓ptV_l, ↓vcA, vcB, ↓vcD, vcE, ↓reduceIte, Nat.reduceEqDiff, Nat.reduceAdd, Nat.reduceMul, Nat.reduceLeDiff, Int.reduceLE, Int.reduceLT, Int.reduceEq, Int.reduceToNat, Int.reduceAdd, Int.reduceSub, Int.reduceMul, Int.reduceNeg, reduceCtorEq, Option.bind_some, Option.map_some, List.length_cons, List.length_nil, vcM, List.getElem?_toArray, List.getElem?_cons_zero, List.getElem?_cons_succ, hs])
        (refine W_at c21_ok ?_; refine ⟨_, rfl, ?_⟩; simp (disch := first | omega | assumption | rfl | (simp only [vcS] <;> omega) | fail) only [↓ptV_l, ↓vcA, vcB, ↓vcD, vcE, ↓reduceIte, Nat.reduceEqDiff, Nat.reduceAdd, Nat.reduceMul, Nat.reduceLeDiff, Int.reduceLE, Int.reduceLT, Int.reduceEq, Int.reduceToNat, Int.reduceAdd, Int.reduceSub, Int.reduceMul, Int.reduceNeg, reduceCtorEq, Option.bind_some, Option.map_some, List.length_cons, List.length_nil, vcM, List.getElem?_toArray, List.getElem?_cons_zero, List.getElem?_cons_succ, Ret_returned])
        exact ⟨by rw [hc, if_neg (by simp)]; rfl, hE3.ext hB.ext⟩
      | succ k ih =>
        intro i wj vb tl hi hB
        have hil : (i : Int) < 8 := by omega
        have hi2 : 0 ≤ (i : Int) ∧ (i : Int) < 8 := by omega
        have hwi : IntKind.i64.wrap ((i : Int) + 1) = ((i + 1 : Nat) : Int) := wrap_i64 (by omega) (by omega)
        obtain ⟨b, o, c, hu, hcell⟩ := (hR.ext hB.ext).at (i := i) (by omega)
        rw [hll] at hu
        subst hu
        have hx := hlb ls[i] (List.getElem_mem _)
        have ht : (ls.take (i + 1)).map l32F = (ls.take i).map l32F ++ [l32F (ls[i]'(by omega))] := by rw [List.take_succ_eq_append_getElem (by omega), List.map_append]; rfl
        (refine W_at c21_ok ?_; refine ⟨_, rfl, ?_⟩; simp (disch := first | omega | assumption | rfl | (simp only [vcS] <;> omega) | fail) only [↓ptV_l, ↓vcA, vcB, ↓vcD, vcE, ↓reduceIte, Nat.reduceEqDiff, Nat.reduceAdd, Nat.reduceMul, Nat.reduceLeDiff, Int.reduceLE, Int.reduceLT, Int.reduceEq, Int.reduceToNat, Int.reduceAdd, Int.reduceSub, Int.reduceMul, Int.reduceNeg, reduceCtorEq, Option.bind_some, Option.map_some, List.length_cons, List.length_nil, vcM, List.getElem?_toArray, List.getElem?_cons_zero, List.getElem?_cons_succ, hil])
        (refine W_at c21_ok ?_; refine ⟨_, rfl, ?_⟩; simp (disch := first | omega | assumption | rfl | (simp only [vcS] <;> omega) | fail) only [↓ptV_l, ↓vcA, vcB, ↓vcD, vcE, ↓reduceIte, Nat.reduceEqDiff, Nat.reduceAdd, Nat.reduceMul, Nat.reduceLeDiff, Int.reduceLE, Int.reduceLT, Int.reduceEq, Int.reduceToNat, Int.reduceAdd, Int.reduceSub, Int.reduceMul, Int.reduceNeg, reduceCtorEq, Option.bind_some, Option.map_some, List.length_cons, List.length_nil, vcM, List.getElem?_toArray, List.getElem?_cons_zero, List.getElem?_cons_succ])
        generalize ls[i]'(by omega) = x at *
        have g1 := l32_at hx
        have u1 := u8i (l32F_b hx)
        have hx0 := hx.1
        (refine W_at c21_ok ?_; refine ⟨_, rfl, ?_⟩; simp (disch := first | omega | assumption | rfl | (simp only [vcS] <;> omega) | fail) only [↓ptV_l, ↓vcA, vcB, ↓vcD, vcE, ↓reduceIte, Nat.reduceEqDiff, Nat.reduceAdd, Nat.reduceMul, Nat.reduceLeDiff, Int.reduceLE, Int.reduceLT, Int.reduceEq, Int.reduceToNat, Int.reduceAdd, Int.reduceSub, Int.reduceMul, Int.reduceNeg, reduceCtorEq, Option.bind_some, Option.map_some, List.length_cons, List.length_nil, vcM, List.getElem?_toArray, List.getElem?_cons_zero, List.getElem?_cons_succ, hi2, hcell, Int.toNat_natCast, Nat.mul_one])
        (refine W_at c21_ok ?_; refine ⟨_, rfl, ?_⟩; simp (disch := first | omega | assumption | rfl | (simp only [vcS] <;> omega) | fail) only [↓ptV_l, ↓vcA, vcB, ↓vcD, vcE, ↓reduceIte, Nat.reduceEqDiff, Nat.reduceAdd, Nat.reduceMul, Nat.reduceLeDiff, Int.reduceLE, Int.reduceLT, Int.reduceEq, Int.reduceToNat, Int.reduceAdd, Int.reduceSub, Int.reduceMul, Int.reduceNeg, reduceCtorEq, Option.bind_some, Option.map_some, List.length_cons, List.length_nil, vcM, List.getElem?_toArray, List.getElem?_cons_zero, List.getElem?_cons_succ, l32S_is, hx0, g1, u1])
        refine appNL (news := [l32F x]) hB (by simp [List.length_take]; omega) fun v' w' n1 _ _ => ?_
        (refine W_at c21_ok ?_; refine ⟨_, rfl, ?_⟩; simp (disch := first | omega | assumption | rfl | (simp only [vcS] <;> omega) | fail) only [↓ptV_l, ↓vcA, vcB, ↓vcD, vcE, ↓reduceIte, Nat.reduceEqDiff, Nat.reduceAdd, Nat.reduceMul, Nat.reduceLeDiff, Int.reduceLE, Int.reduceLT, Int.reduceEq, Int.reduceToNat, Int.reduceAdd, Int.reduceSub, Int.reduceMul, Int.reduceNeg, reduceCtorEq, Option.bind_some, Option.map_some, List.length_cons, List.length_nil, vcM, List.getElem?_toArray, List.getElem?_cons_zero, List.getElem?_cons_succ, hwi])
        (refine W_at c21_ok ?_; refine ⟨_, rfl, ?_⟩; simp (disch := first | omega | assumption | rfl | (simp only [vcS] <;> omega) | fail) only [↓ptV_l, ↓vcA, vcB, ↓vcD, vcE, ↓reduceIte, Nat.reduceEqDiff, Nat.reduceAdd, Nat.reduceMul, Nat.reduceLeDiff, Int.reduceLE, Int.reduceLT, Int.reduceEq, Int.reduceToNat, Int.reduceAdd, Int.reduceSub, Int.reduceMul, Int.reduceNeg, reduceCtorEq, Option.bind_some, Option.map_some, List.length_cons, List.length_nil, vcM, List.getElem?_toArray, List.getElem?_cons_zero, List.getElem?_cons_succ])
        exact ih (i + 1) w' v' _ (by omega) (by rw [ht]; exact n1)
    exact L 8 0 w3 _ _ (by omega) (New.nil w3)
  have L : ∀ (k i : Nat) (wj : World) (vv gv : Value) (st : List Int × List Int) (tl : Env), k + i = bs.length → New w wj vv st.1 → New w wj gv st.2 → (∀ g, blk vv g → ¬ blk gv g) → StOk st i → st = (placesF (bs.take i)).foldl stepV ([], []) → (∀ p ∈ placesF (bs.take i), 0 ≤ p) →
      W Tryd.prog (Ret fun u w' => u = .tuple #[.string (strOf ((checkF bs).getD [])), .int .i64 (if checkF bs = none then 3 else 0)] ∧ Ext w w') 21 31 ((0, .string (strOf bs)) :: (4, vv) :: (5, gv) :: (12, .int .i64 bs.length) :: (13, .int .i64 i) :: tl) wj := by
    intro k
    induction k with
    | zero =>
      intro i wj vv gv st tl hi hV hG hdis hS hst hall
      have hil : ¬ ((i : Int) < (bs.length : Int)) := by omega
      rw [List.take_of_length_le (by omega)] at hst hall
      have hc : checkF bs = some ((lettersF (runB 35 descG (endV st ++ List.replicate 8 0) ^^^ 1#64) 8).map l32F) := by
        unfold checkF
        rw [if_pos (List.all_eq_true.2 fun p hp => decide_eq_true (hall p hp))]
        unfold sumOf valsOf
        rw [← hst]
      have hend := hS.end
      have hgl := hG.own.rd.len
      obtain ⟨vs, gs⟩ := st
      simp only at hV hG hgl
      have hb2 := hS.b2
      have hl2 := hS.l2
      have hl1 := hS.l1
      simp only at hb2 hl2 hl1
      match gs, hb2, hl2, hG, hgl, hend, hc with
      | [], _, _, hG, hgl, hend, hc =>
        (refine W_at c21_ok ?_; refine ⟨_, rfl, ?_⟩; simp (disch := first | omega | assumption | rfl | (simp only [vcS] <;> omega) | fail) only [↓ptV_l, ↓vcA, vcB, ↓vcD, vcE, ↓reduceIte, Nat.reduceEqDiff, Nat.reduceAdd, Nat.reduceMul, Nat.reduceLeDiff, Int.reduceLE, Int.reduceLT, Int.reduceEq, Int.reduceToNat, Int.reduceAdd, Int.reduceSub, Int.reduceMul, Int.reduceNeg, reduceCtorEq, Option.bind_some, Option.map_some, List.length_cons, List.length_nil, vcM, List.getElem?_toArray, List.getElem?_cons_zero, List.getElem?_cons_succ, hil])
        (refine W_at c21_ok ?_; refine ⟨_, rfl, ?_⟩; simp (disch := first | omega | assumption | rfl | (simp only [vcS] <;> omega) | fail) only [↓ptV_l, ↓vcA, vcB, ↓vcD, vcE, ↓reduceIte, Nat.reduceEqDiff, Nat.reduceAdd, Nat.reduceMul, Nat.reduceLeDiff, Int.reduceLE, Int.reduceLT, Int.reduceEq, Int.reduceToNat, Int.reduceAdd, Int.reduceSub, Int.reduceMul, Int.reduceNeg, reduceCtorEq, Option.bind_some, Option.map_some, List.length_cons, List.length_nil, vcM, List.getElem?_toArray, List.getElem?_cons_zero, List.getElem?_cons_succ])
        (refine W_at c21_ok ?_; refine ⟨_, rfl, ?_⟩; simp (disch := first | omega | assumption | rfl | (simp only [vcS] <;> omega) | fail) only [↓ptV_l, ↓vcA, vcB, ↓vcD, vcE, ↓reduceIte, Nat.reduceEqDiff, Nat.reduceAdd, Nat.reduceMul, Nat.reduceLeDiff, Int.reduceLE, Int.reduceLT, Int.reduceEq, Int.reduceToNat, Int.reduceAdd, Int.reduceSub, Int.reduceMul, Int.reduceNeg, reduceCtorEq, Option.bind_some, Option.map_some, List.length_cons, List.length_nil, vcM, List.getElem?_toArray, List.getElem?_cons_zero, List.getElem?_cons_succ, hgl])
        (refine W_at c21_ok ?_; refine ⟨_, rfl, ?_⟩; simp (disch := first | omega | assumption | rfl | (simp only [vcS] <;> omega) | fail) only [↓ptV_l, ↓vcA, vcB, ↓vcD, vcE, ↓reduceIte, Nat.reduceEqDiff, Nat.reduceAdd, Nat.reduceMul, Nat.reduceLeDiff, Int.reduceLE, Int.reduceLT, Int.reduceEq, Int.reduceToNat, Int.reduceAdd, Int.reduceSub, Int.reduceMul, Int.reduceNeg, reduceCtorEq, Option.bind_some, Option.map_some, List.length_cons, List.length_nil, vcM, List.getElem?_toArray, List.getElem?_cons_zero, List.getElem?_cons_succ])
        (refine W_at c21_ok ?_; refine ⟨_, rfl, ?_⟩; simp (disch := first | omega | assumption | rfl | (simp only [vcS] <;> omega) | fail) only [↓ptV_l, ↓vcA, vcB, ↓vcD, vcE, ↓reduceIte, Nat.reduceEqDiff, Nat.reduceAdd, Nat.reduceMul, Nat.reduceLeDiff, Int.reduceLE, Int.reduceLT, Int.reduceEq, Int.reduceToNat, Int.reduceAdd, Int.reduceSub, Int.reduceMul, Int.reduceNeg, reduceCtorEq, Option.bind_some, Option.map_some, List.length_cons, List.length_nil, vcM, List.getElem?_toArray, List.getElem?_cons_zero, List.getElem?_cons_succ])
        (refine W_at c21_ok ?_; refine ⟨_, rfl, ?_⟩; simp (disch := first | omega | assumption | rfl | (simp only [vcS] <;> omega) | fail) only [↓ptV_l, ↓vcA, vcB, ↓vcD, vcE, ↓reduceIte, Nat.reduceEqDiff, Nat.reduceAdd, Nat.reduceMul, Nat.reduceLeDiff, Int.reduceLE, Int.reduceLT, Int.reduceEq, Int.reduceToNat, Int.reduceAdd, Int.reduceSub, Int.reduceMul, Int.reduceNeg, reduceCtorEq, Option.bind_some, Option.map_some, List.length_cons, List.length_nil, vcM, List.getElem?_toArray, List.getElem?_cons_zero, List.getElem?_cons_succ])
        (refine W_at c21_ok ?_; refine ⟨_, rfl, ?_⟩; simp (disch := first | omega | assumption | rfl | (simp only [vcS] <;> omega) | fail) only [↓ptV_l, ↓vcA, vcB, ↓vcD, vcE, ↓reduceIte, Nat.reduceEqDiff, Nat.reduceAdd, Nat.reduceMul, Nat.reduceLeDiff, Int.reduceLE, Int.reduceLT, Int.reduceEq, Int.reduceToNat, Int.reduceAdd, Int.reduceSub, Int.reduceMul, Int.reduceNeg, reduceCtorEq, Option.bind_some, Option.map_some, List.length_cons, List.length_nil, vcM, List.getElem?_toArray, List.getElem?_cons_zero, List.getElem?_cons_succ])
        exact tail wj vv vs _ hV hend.1 (by omega) hc
      | [a], hb2, _, hG, hgl, hend, hc =>
        obtain ⟨b, o, c, rfl, hcell⟩ := hG.own.rd.at (i := 0) (by simp)
        simp only [List.getElem_cons_zero, Nat.add_zero] at hcell
        (refine W_at c21_ok ?_; refine ⟨_, rfl, ?_⟩; simp (disch := first | omega | assumption | rfl | (simp only [vcS] <;> omega) | fail) only [↓ptV_l, ↓vcA, vcB, ↓vcD, vcE, ↓reduceIte, Nat.reduceEqDiff, Nat.reduceAdd, Nat.reduceMul, Nat.reduceLeDiff, Int.reduceLE, Int.reduceLT, Int.reduceEq, Int.reduceToNat, Int.reduceAdd, Int.reduceSub, Int.reduceMul, Int.reduceNeg, reduceCtorEq, Option.bind_some, Option.map_some, List.length_cons, List.length_nil, vcM, List.getElem?_toArray, List.getElem?_cons_zero, List.getElem?_cons_succ, hil])
        (refine W_at c21_ok ?_; refine ⟨_, rfl, ?_⟩; simp (disch := first | omega | assumption | rfl | (simp only [vcS] <;> omega) | fail) only [↓ptV_l, ↓vcA, vcB, ↓vcD, vcE, ↓reduceIte, Nat.reduceEqDiff, Nat.reduceAdd, Nat.reduceMul, Nat.reduceLeDiff, Int.reduceLE, Int.reduceLT, Int.reduceEq, Int.reduceToNat, Int.reduceAdd, Int.reduceSub, Int.reduceMul, Int.reduceNeg, reduceCtorEq, Option.bind_some, Option.map_some, List.length_cons, List.length_nil, vcM, List.getElem?_toArray, List.getElem?_cons_zero, List.getElem?_cons_succ])
        (refine W_at c21_ok ?_; refine ⟨_, rfl, ?_⟩; simp (disch := first | omega | assumption | rfl | (simp only [vcS] <;> omega) | fail) only [↓ptV_l, ↓vcA, vcB, ↓vcD, vcE, ↓reduceIte, Nat.reduceEqDiff, Nat.reduceAdd, Nat.reduceMul, Nat.reduceLeDiff, Int.reduceLE, Int.reduceLT, Int.reduceEq, Int.reduceToNat, Int.reduceAdd, Int.reduceSub, Int.reduceMul, Int.reduceNeg, reduceCtorEq, Option.bind_some, Option.map_some, List.length_cons, List.length_nil, vcM, List.getElem?_toArray, List.getElem?_cons_zero, List.getElem?_cons_succ, hgl])
        (refine W_at c21_ok ?_; refine ⟨_, rfl, ?_⟩; simp (disch := first | omega | assumption | rfl | (simp only [vcS] <;> omega) | fail) only [↓ptV_l, ↓vcA, vcB, ↓vcD, vcE, ↓reduceIte, Nat.reduceEqDiff, Nat.reduceAdd, Nat.reduceMul, Nat.reduceLeDiff, Int.reduceLE, Int.reduceLT, Int.reduceEq, Int.reduceToNat, Int.reduceAdd, Int.reduceSub, Int.reduceMul, Int.reduceNeg, reduceCtorEq, Option.bind_some, Option.map_some, List.length_cons, List.length_nil, vcM, List.getElem?_toArray, List.getElem?_cons_zero, List.getElem?_cons_succ])
        (refine W_at c21_ok ?_; refine ⟨_, rfl, ?_⟩; simp (disch := first | omega | assumption | rfl | (simp only [vcS] <;> omega) | fail) only [↓ptV_l, ↓vcA, vcB, ↓vcD, vcE, ↓reduceIte, Nat.reduceEqDiff, Nat.reduceAdd, Nat.reduceMul, Nat.reduceLeDiff, Int.reduceLE, Int.reduceLT, Int.reduceEq, Int.reduceToNat, Int.reduceAdd, Int.reduceSub, Int.reduceMul, Int.reduceNeg, reduceCtorEq, Option.bind_some, Option.map_some, List.length_cons, List.length_nil, vcM, List.getElem?_toArray, List.getElem?_cons_zero, List.getElem?_cons_succ])
        (refine W_at c21_ok ?_; refine ⟨_, rfl, ?_⟩; simp (disch := first | omega | assumption | rfl | (simp only [vcS] <;> omega) | fail) only [↓ptV_l, ↓vcA, vcB, ↓vcD, vcE, ↓reduceIte, Nat.reduceEqDiff, Nat.reduceAdd, Nat.reduceMul, Nat.reduceLeDiff, Int.reduceLE, Int.reduceLT, Int.reduceEq, Int.reduceToNat, Int.reduceAdd, Int.reduceSub, Int.reduceMul, Int.reduceNeg, reduceCtorEq, Option.bind_some, Option.map_some, List.length_cons, List.length_nil, vcM, List.getElem?_toArray, List.getElem?_cons_zero, List.getElem?_cons_succ, hcell])
        refine appNL (news := [a]) hV (by simp; omega) fun v' w' n1 _ _ => ?_
        first | (simp (disch := first | omega | assumption | rfl | (simp only [vcS] <;> omega) | fail) only [↓ptV_l, ↓vcA, vcB, ↓vcD, vcE, ↓reduceIte, Nat.reduceEqDiff, Nat.reduceAdd, Nat.reduceMul, Nat.reduceLeDiff, Int.reduceLE, Int.reduceLT, Int.reduceEq, Int.reduceToNat, Int.reduceAdd, Int.reduceSub, Int.reduceMul, Int.reduceNeg, reduceCtorEq, Option.bind_some, Option.map_some, List.length_cons, List.length_nil, vcM, List.getElem?_toArray, List.getElem?_cons_zero, List.getElem?_cons_succ]) | skip
        exact tail w' v' _ _ n1 hend.1 (by have := hend.2; simp [endV] at this ⊢; omega) hc
      | [a, b2], hb2, _, hG, hgl, hend, hc =>
        have ha := hb2 a (by simp)
        have hb := hb2 b2 (by simp)
        obtain ⟨b, o, c, rfl, hcell⟩ := hG.own.rd.at (i := 0) (by simp)
        obtain ⟨_, _, _, e, hcell2⟩ := hG.own.rd.at (i := 1) (by simp)
        cases e
        simp only [List.getElem_cons_zero, List.getElem_cons_succ, Nat.add_zero] at hcell hcell2
        have m1 : IntKind.u8.wrap (3 * a) = 3 * a := by rw [wrap_u8]; omega
        have m2 : IntKind.u8.wrap (3 * a + b2) = 3 * a + b2 := by rw [wrap_u8]; omega
        (refine W_at c21_ok ?_; refine ⟨_, rfl, ?_⟩; simp (disch := first | omega | assumption | rfl | (simp only [vcS] <;> omega) | fail) only [↓ptV_l, ↓vcA, vcB, ↓vcD, vcE, ↓reduceIte, Nat.reduceEqDiff, Nat.reduceAdd, Nat.reduceMul, Nat.reduceLeDiff, Int.reduceLE, Int.reduceLT, Int.reduceEq, Int.reduceToNat, Int.reduceAdd, Int.reduceSub, Int.reduceMul, Int.reduceNeg, reduceCtorEq, Option.bind_some, Option.map_some, List.length_cons, List.length_nil, vcM, List.getElem?_toArray, List.getElem?_cons_zero, List.getElem?_cons_succ, hil])
        (refine W_at c21_ok ?_; refine ⟨_, rfl, ?_⟩; simp (disch := first | omega | assumption | rfl | (simp only [vcS] <;> omega) | fail) only [↓ptV_l, ↓vcA, vcB, ↓vcD, vcE, ↓reduceIte, Nat.reduceEqDiff, Nat.reduceAdd, Nat.reduceMul, Nat.reduceLeDiff, Int.reduceLE, Int.reduceLT, Int.reduceEq, Int.reduceToNat, Int.reduceAdd, Int.reduceSub, Int.reduceMul, Int.reduceNeg, reduceCtorEq, Option.bind_some, Option.map_some, List.length_cons, List.length_nil, vcM, List.getElem?_toArray, List.getElem?_cons_zero, List.getElem?_cons_succ])
        (refine W_at c21_ok ?_; refine ⟨_, rfl, ?_⟩; simp (disch := first | omega | assumption | rfl | (simp only [vcS] <;> omega) | fail) only [↓ptV_l, ↓vcA, vcB, ↓vcD, vcE, ↓reduceIte, Nat.reduceEqDiff, Nat.reduceAdd, Nat.reduceMul, Nat.reduceLeDiff, Int.reduceLE, Int.reduceLT, Int.reduceEq, Int.reduceToNat, Int.reduceAdd, Int.reduceSub, Int.reduceMul, Int.reduceNeg, reduceCtorEq, Option.bind_some, Option.map_some, List.length_cons, List.length_nil, vcM, List.getElem?_toArray, List.getElem?_cons_zero, List.getElem?_cons_succ, hgl])
        (refine W_at c21_ok ?_; refine ⟨_, rfl, ?_⟩; simp (disch := first | omega | assumption | rfl | (simp only [vcS] <;> omega) | fail) only [↓ptV_l, ↓vcA, vcB, ↓vcD, vcE, ↓reduceIte, Nat.reduceEqDiff, Nat.reduceAdd, Nat.reduceMul, Nat.reduceLeDiff, Int.reduceLE, Int.reduceLT, Int.reduceEq, Int.reduceToNat, Int.reduceAdd, Int.reduceSub, Int.reduceMul, Int.reduceNeg, reduceCtorEq, Option.bind_some, Option.map_some, List.length_cons, List.length_nil, vcM, List.getElem?_toArray, List.getElem?_cons_zero, List.getElem?_cons_succ])
        (refine W_at c21_ok ?_; refine ⟨_, rfl, ?_⟩; simp (disch := first | omega | assumption | rfl | (simp only [vcS] <;> omega) | fail) only [↓ptV_l, ↓vcA, vcB, ↓vcD, vcE, ↓reduceIte, Nat.reduceEqDiff, Nat.reduceAdd, Nat.reduceMul, Nat.reduceLeDiff, Int.reduceLE, Int.reduceLT, Int.reduceEq, Int.reduceToNat, Int.reduceAdd, Int.reduceSub, Int.reduceMul, Int.reduceNeg, reduceCtorEq, Option.bind_some, Option.map_some, List.length_cons, List.length_nil, vcM, List.getElem?_toArray, List.getElem?_cons_zero, List.getElem?_cons_succ])
        (refine W_at c21_ok ?_; refine ⟨_, rfl, ?_⟩; simp (disch := first | omega | assumption | rfl | (simp only [vcS] <;> omega) | fail) only [↓ptV_l, ↓vcA, vcB, ↓vcD, vcE, ↓reduceIte, Nat.reduceEqDiff, Nat.reduceAdd, Nat.reduceMul, Nat.reduceLeDiff, Int.reduceLE, Int.reduceLT, Int.reduceEq, Int.reduceToNat, Int.reduceAdd, Int.reduceSub, Int.reduceMul, Int.reduceNeg, reduceCtorEq, Option.bind_some, Option.map_some, List.length_cons, List.length_nil, vcM, List.getElem?_toArray, List.getElem?_cons_zero, List.getElem?_cons_succ])
        (refine W_at c21_ok ?_; refine ⟨_, rfl, ?_⟩; simp (disch := first | omega | assumption | rfl | (simp only [vcS] <;> omega) | fail) only [↓ptV_l, ↓vcA, vcB, ↓vcD, vcE, ↓reduceIte, Nat.reduceEqDiff, Nat.reduceAdd, Nat.reduceMul, Nat.reduceLeDiff, Int.reduceLE, Int.reduceLT, Int.reduceEq, Int.reduceToNat, Int.reduceAdd, Int.reduceSub, Int.reduceMul, Int.reduceNeg, reduceCtorEq, Option.bind_some, Option.map_some, List.length_cons, List.length_nil, vcM, List.getElem?_toArray, List.getElem?_cons_zero, List.getElem?_cons_succ])
        (refine W_at c21_ok ?_; refine ⟨_, rfl, ?_⟩; simp (disch := first | omega | assumption | rfl | (simp only [vcS] <;> omega) | fail) only [↓ptV_l, ↓vcA, vcB, ↓vcD, vcE, ↓reduceIte, Nat.reduceEqDiff, Nat.reduceAdd, Nat.reduceMul, Nat.reduceLeDiff, Int.reduceLE, Int.reduceLT, Int.reduceEq, Int.reduceToNat, Int.reduceAdd, Int.reduceSub, Int.reduceMul, Int.reduceNeg, reduceCtorEq, Option.bind_some, Option.map_some, List.length_cons, List.length_nil, vcM, List.getElem?_toArray, List.getElem?_cons_zero, List.getElem?_cons_succ, hcell, hcell2, m1, m2])
        refine appNL (news := [3 * a + b2]) (hV.keep ((Keep.refl _ wj).drew)) (by simp; omega) fun v' w' n1 _ _ => ?_
        first | (simp (disch := first | omega | assumption | rfl | (simp only [vcS] <;> omega) | fail) only [↓ptV_l, ↓vcA, vcB, ↓vcD, vcE, ↓reduceIte, Nat.reduceEqDiff, Nat.reduceAdd, Nat.reduceMul, Nat.reduceLeDiff, Int.reduceLE, Int.reduceLT, Int.reduceEq, Int.reduceToNat, Int.reduceAdd, Int.reduceSub, Int.reduceMul, Int.reduceNeg, reduceCtorEq, Option.bind_some, Option.map_some, List.length_cons, List.length_nil, vcM, List.getElem?_toArray, List.getElem?_cons_zero, List.getElem?_cons_succ]) | skip
        exact tail w' v' _ _ n1 hend.1 (by have := hend.2; simp [endV] at this ⊢; omega) hc
    | succ k ih =>
      intro i wj vv gv st tl hi hV hG hdis hS hst hall
      have hil : (i : Int) < (bs.length : Int) := by omega
      have h0 : 0 ≤ (i : Int) := by omega
      have hwi : IntKind.i64.wrap ((i : Int) + 1) = ((i + 1 : Nat) : Int) := wrap_i64 (by omega) (by omega)
      have g1 := str_get (bs := bs) (i := i) (by omega)
      have b1 := hb bs[i] (List.getElem_mem _)
      have u1 := u8i b1
      have hp := place_in bs[i]
      have hpt := places_take (bs := bs) (i := i) (by omega)
      have hmem : placeF bs[i] inS 0 ∈ placesF bs := List.mem_map.2 ⟨bs[i], List.getElem_mem _, rfl⟩
      have htake : placesF (bs.take (i + 1)) = placesF (bs.take i) ++ [placeF (bs[i]'(by omega)) inS 0] := by
        rw [List.take_succ_eq_append_getElem (by omega)]
        simp only [placesF, List.map_append, List.map_cons, List.map_nil]
      (refine W_at c21_ok ?_; refine ⟨_, rfl, ?_⟩; simp (disch := first | omega | assumption | rfl | (simp only [vcS] <;> omega) | fail) only [↓ptV_l, ↓vcA, vcB, ↓vcD, vcE, ↓reduceIte, Nat.reduceEqDiff, Nat.reduceAdd, Nat.reduceMul, Nat.reduceLeDiff, Int.reduceLE, Int.reduceLT, Int.reduceEq, Int.reduceToNat, Int.reduceAdd, Int.reduceSub, Int.reduceMul, Int.reduceNeg, reduceCtorEq, Option.bind_some, Option.map_some, List.length_cons, List.length_nil, vcM, List.getElem?_toArray, List.getElem?_cons_zero, List.getElem?_cons_succ, hil])
      (refine W_at c21_ok ?_; refine ⟨_, rfl, ?_⟩; simp (disch := first | omega | assumption | rfl | (simp only [vcS] <;> omega) | fail) only [↓ptV_l, ↓vcA, vcB, ↓vcD, vcE, ↓reduceIte, Nat.reduceEqDiff, Nat.reduceAdd, Nat.reduceMul, Nat.reduceLeDiff, Int.reduceLE, Int.reduceLT, Int.reduceEq, Int.reduceToNat, Int.reduceAdd, Int.reduceSub, Int.reduceMul, Int.reduceNeg, reduceCtorEq, Option.bind_some, Option.map_some, List.length_cons, List.length_nil, vcM, List.getElem?_toArray, List.getElem?_cons_zero, List.getElem?_cons_succ])
      (refine W_at c21_ok ?_; refine ⟨_, rfl, ?_⟩; simp (disch := first | omega | assumption | rfl | (simp only [vcS] <;> omega) | fail) only [↓ptV_l, ↓vcA, vcB, ↓vcD, vcE, ↓reduceIte, Nat.reduceEqDiff, Nat.reduceAdd, Nat.reduceMul, Nat.reduceLeDiff, Int.reduceLE, Int.reduceLT, Int.reduceEq, Int.reduceToNat, Int.reduceAdd, Int.reduceSub, Int.reduceMul, Int.reduceNeg, reduceCtorEq, Option.bind_some, Option.map_some, List.length_cons, List.length_nil, vcM, List.getElem?_toArray, List.getElem?_cons_zero, List.getElem?_cons_succ])
      (refine W_at c21_ok ?_; refine ⟨_, rfl, ?_⟩; simp (disch := first | omega | assumption | rfl | (simp only [vcS] <;> omega) | fail) only [↓ptV_l, ↓vcA, vcB, ↓vcD, vcE, ↓reduceIte, Nat.reduceEqDiff, Nat.reduceAdd, Nat.reduceMul, Nat.reduceLeDiff, Int.reduceLE, Int.reduceLT, Int.reduceEq, Int.reduceToNat, Int.reduceAdd, Int.reduceSub, Int.reduceMul, Int.reduceNeg, reduceCtorEq, Option.bind_some, Option.map_some, List.length_cons, List.length_nil, vcM, List.getElem?_toArray, List.getElem?_cons_zero, List.getElem?_cons_succ, h0, Int.toNat_natCast, g1, u1, inS_is])
      generalize bs[i] = x at *
      refine callV_ret (index_ok wj inS x inS_byt b1) ?_
      rintro _ w1 ⟨rfl, hw⟩
      obtain rfl : wj = w1 := hw.symm
      first | (simp (disch := first | omega | assumption | rfl | (simp only [vcS] <;> omega) | fail) only [↓ptV_l, ↓vcA, vcB, ↓vcD, vcE, ↓reduceIte, Nat.reduceEqDiff, Nat.reduceAdd, Nat.reduceMul, Nat.reduceLeDiff, Int.reduceLE, Int.reduceLT, Int.reduceEq, Int.reduceToNat, Int.reduceAdd, Int.reduceSub, Int.reduceMul, Int.reduceNeg, reduceCtorEq, Option.bind_some, Option.map_some, List.length_cons, List.length_nil, vcM, List.getElem?_toArray, List.getElem?_cons_zero, List.getElem?_cons_succ]) | skip
      generalize hpp : placeF x inS 0 = p at *
      by_cases hneg : p < 0
      · have hc : checkF bs = none := by
          unfold checkF
          rw [if_neg]
          intro h
          have := of_decide_eq_true (List.all_eq_true.1 h p hmem)
          omega
        (refine W_at c21_ok ?_; refine ⟨_, rfl, ?_⟩; simp (disch := first | omega | assumption | rfl | (simp only [vcS] <;> omega) | fail) only [↓ptV_l, ↓vcA, vcB, ↓vcD, vcE, ↓reduceIte, Nat.reduceEqDiff, Nat.reduceAdd, Nat.reduceMul, Nat.reduceLeDiff, Int.reduceLE, Int.reduceLT, Int.reduceEq, Int.reduceToNat, Int.reduceAdd, Int.reduceSub, Int.reduceMul, Int.reduceNeg, reduceCtorEq, Option.bind_some, Option.map_some, List.length_cons, List.length_nil, vcM, List.getElem?_toArray, List.getElem?_cons_zero, List.getElem?_cons_succ, hneg])
        (refine W_at c21_ok ?_; refine ⟨_, rfl, ?_⟩; simp (disch := first | omega | assumption | rfl | (simp only [vcS] <;> omega) | fail) only [↓ptV_l, ↓vcA, vcB, ↓vcD, vcE, ↓reduceIte, Nat.reduceEqDiff, Nat.reduceAdd, Nat.reduceMul, Nat.reduceLeDiff, Int.reduceLE, Int.reduceLT, Int.reduceEq, Int.reduceToNat, Int.reduceAdd, Int.reduceSub, Int.reduceMul, Int.reduceNeg, reduceCtorEq, Option.bind_some, Option.map_some, List.length_cons, List.length_nil, vcM, List.getElem?_toArray, List.getElem?_cons_zero, List.getElem?_cons_succ])
        (refine W_at c21_ok ?_; refine ⟨_, rfl, ?_⟩; simp (disch := first | omega | assumption | rfl | (simp only [vcS] <;> omega) | fail) only [↓ptV_l, ↓vcA, vcB, ↓vcD, vcE, ↓reduceIte, Nat.reduceEqDiff, Nat.reduceAdd, Nat.reduceMul, Nat.reduceLeDiff, Int.reduceLE, Int.reduceLT, Int.reduceEq, Int.reduceToNat, Int.reduceAdd, Int.reduceSub, Int.reduceMul, Int.reduceNeg, reduceCtorEq, Option.bind_some, Option.map_some, List.length_cons, List.length_nil, vcM, List.getElem?_toArray, List.getElem?_cons_zero, List.getElem?_cons_succ])
        (refine W_at c21_ok ?_; refine ⟨_, rfl, ?_⟩; simp (disch := first | omega | assumption | rfl | (simp only [vcS] <;> omega) | fail) only [↓ptV_l, ↓vcA, vcB, ↓vcD, vcE, ↓reduceIte, Nat.reduceEqDiff, Nat.reduceAdd, Nat.reduceMul, Nat.reduceLeDiff, Int.reduceLE, Int.reduceLT, Int.reduceEq, Int.reduceToNat, Int.reduceAdd, Int.reduceSub, Int.reduceMul, Int.reduceNeg, reduceCtorEq, Option.bind_some, Option.map_some, List.length_cons, List.length_nil, vcM, List.getElem?_toArray, List.getElem?_cons_zero, List.getElem?_cons_succ, Ret_returned])
        exact ⟨by rw [hc]; rfl, hV.ext⟩
      · have hp94 : 0 ≤ p ∧ p ≤ 94 := by omega
        have a31 := and_31 hp94
        have s5 := shr_5 hp94
        have hall2 : ∀ q ∈ placesF (bs.take (i + 1)), 0 ≤ q := fun q hq => by
          rw [htake] at hq
          rcases List.mem_append.1 hq with hq | hq
          · exact hall q hq
          · rw [List.mem_singleton.1 hq]; exact hp94.1
        have hS2 := hS.step hp94
        rw [← hst] at hpt
        have hl1 := hS.l1
        have hl2 := hS.l2
        have hb2 := hS.b2
        obtain ⟨vs, gs⟩ := st
        simp only at hV hG hl1 hl2 hb2
        (refine W_at c21_ok ?_; refine ⟨_, rfl, ?_⟩; simp (disch := first | omega | assumption | rfl | (simp only [vcS] <;> omega) | fail) only [↓ptV_l, ↓vcA, vcB, ↓vcD, vcE, ↓reduceIte, Nat.reduceEqDiff, Nat.reduceAdd, Nat.reduceMul, Nat.reduceLeDiff, Int.reduceLE, Int.reduceLT, Int.reduceEq, Int.reduceToNat, Int.reduceAdd, Int.reduceSub, Int.reduceMul, Int.reduceNeg, reduceCtorEq, Option.bind_some, Option.map_some, List.length_cons, List.length_nil, vcM, List.getElem?_toArray, List.getElem?_cons_zero, List.getElem?_cons_succ, hneg])
        (refine W_at c21_ok ?_; refine ⟨_, rfl, ?_⟩; simp (disch := first | omega | assumption | rfl | (simp only [vcS] <;> omega) | fail) only [↓ptV_l, ↓vcA, vcB, ↓vcD, vcE, ↓reduceIte, Nat.reduceEqDiff, Nat.reduceAdd, Nat.reduceMul, Nat.reduceLeDiff, Int.reduceLE, Int.reduceLT, Int.reduceEq, Int.reduceToNat, Int.reduceAdd, Int.reduceSub, Int.reduceMul, Int.reduceNeg, reduceCtorEq, Option.bind_some, Option.map_some, List.length_cons, List.length_nil, vcM, List.getElem?_toArray, List.getElem?_cons_zero, List.getElem?_cons_succ])
        (refine W_at c21_ok ?_; refine ⟨_, rfl, ?_⟩; simp (disch := first | omega | assumption | rfl | (simp only [vcS] <;> omega) | fail) only [↓ptV_l, ↓vcA, vcB, ↓vcD, vcE, ↓reduceIte, Nat.reduceEqDiff, Nat.reduceAdd, Nat.reduceMul, Nat.reduceLeDiff, Int.reduceLE, Int.reduceLT, Int.reduceEq, Int.reduceToNat, Int.reduceAdd, Int.reduceSub, Int.reduceMul, Int.reduceNeg, reduceCtorEq, Option.bind_some, Option.map_some, List.length_cons, List.length_nil, vcM, List.getElem?_toArray, List.getElem?_cons_zero, List.getElem?_cons_succ, a31, s5])
        refine appNL (news := [p % 32]) hV (by simp; omega) fun v1 w1 n1 k1 f1 => ?_
        have hG1 : New w w1 gv gs := ⟨hG.own.keep k1 fun g h1 h2 => hdis g h2 h1, n1.ext, hG.new⟩
        have hdis1 : ∀ g, blk v1 g → ¬ blk gv g := fun g h1 h2 => by
          rcases f1 g h1 with h | h
          · exact hdis g h h2
          · have := hG.own.lt h2; omega
        first | (simp (disch := first | omega | assumption | rfl | (simp only [vcS] <;> omega) | fail) only [↓ptV_l, ↓vcA, vcB, ↓vcD, vcE, ↓reduceIte, Nat.reduceEqDiff, Nat.reduceAdd, Nat.reduceMul, Nat.reduceLeDiff, Int.reduceLE, Int.reduceLT, Int.reduceEq, Int.reduceToNat, Int.reduceAdd, Int.reduceSub, Int.reduceMul, Int.reduceNeg, reduceCtorEq, Option.bind_some, Option.map_some, List.length_cons, List.length_nil, vcM, List.getElem?_toArray, List.getElem?_cons_zero, List.getElem?_cons_succ]) | skip
        refine appNL (news := [p / 32]) hG1 (by simp; omega) fun v2 w2 n2 k2 f2 => ?_
        have hV2 : New w w2 v1 (vs ++ [p % 32]) := ⟨n1.own.keep k2 fun g h1 h2 => hdis1 g h1 h2, n2.ext, n1.new⟩
        have hdis2 : ∀ g, blk v1 g → ¬ blk v2 g := fun g h1 h2 => by
          rcases f2 g h2 with h | h
          · exact hdis1 g h1 h
          · have := n1.own.lt h1; omega
        first | (simp (disch := first | omega | assumption | rfl | (simp only [vcS] <;> omega) | fail) only [↓ptV_l, ↓vcA, vcB, ↓vcD, vcE, ↓reduceIte, Nat.reduceEqDiff, Nat.reduceAdd, Nat.reduceMul, Nat.reduceLeDiff, Int.reduceLE, Int.reduceLT, Int.reduceEq, Int.reduceToNat, Int.reduceAdd, Int.reduceSub, Int.reduceMul, Int.reduceNeg, reduceCtorEq, Option.bind_some, Option.map_some, List.length_cons, List.length_nil, vcM, List.getElem?_toArray, List.getElem?_cons_zero, List.getElem?_cons_succ]) | skip
        have next : ∀ (w3 : World) (v3 v4 : Value) (tl : Env), New w w3 v3 (stepV (vs, gs) p).1 → New w w3 v4 (stepV (vs, gs) p).2 → (∀ g, blk v3 g → ¬ blk v4 g) →
            W Tryd.prog (Ret fun u w' => u = .tuple #[.string (strOf ((checkF bs).getD [])), .int .i64 (if checkF bs = none then 3 else 0)] ∧ Ext w w') 21 19 ((0, .string (strOf bs)) :: (4, v3) :: (5, v4) :: (12, .int .i64 bs.length) :: (13, .int .i64 i) :: tl) w3 := by
          intro w3 v3 v4 tl h3 h4 hd
          (refine W_at c21_ok ?_; refine ⟨_, rfl, ?_⟩; simp (disch := first | omega | assumption | rfl | (simp only [vcS] <;> omega) | fail) only [↓ptV_l, ↓vcA, vcB, ↓vcD, vcE, ↓reduceIte, Nat.reduceEqDiff, Nat.reduceAdd, Nat.reduceMul, Nat.reduceLeDiff, Int.reduceLE, Int.reduceLT, Int.reduceEq, Int.reduceToNat, Int.reduceAdd, Int.reduceSub, Int.reduceMul, Int.reduceNeg, reduceCtorEq, Option.bind_some, Option.map_some, List.length_cons, List.length_nil, vcM, List.getElem?_toArray, List.getElem?_cons_zero, List.getElem?_cons_succ, hwi])
          (refine W_at c21_ok ?_; refine ⟨_, rfl, ?_⟩; simp (disch := first | omega | assumption | rfl | (simp only [vcS] <;> omega) | fail) only [↓ptV_l, ↓vcA, vcB, ↓vcD, vcE, ↓reduceIte, Nat.reduceEqDiff, Nat.reduceAdd, Nat.reduceMul, Nat.reduceLeDiff, Int.reduceLE, Int.reduceLT, Int.reduceEq, Int.reduceToNat, Int.reduceAdd, Int.reduceSub, Int.reduceMul, Int.reduceNeg, reduceCtorEq, Option.bind_some, Option.map_some, List.length_cons, List.length_nil, vcM, List.getElem?_toArray, List.getElem?_cons_zero, List.getElem?_cons_succ])
          exact ih (i + 1) w3 v3 v4 _ _ (by omega) h3 h4 hd hS2 hpt.symm hall2
        match gs, hb2, hl2, n2, next, hS2 with
        | [], _, _, n2, next, hS2 =>
          have hgl : lenR v2 = some (.int .i64 1) := n2.own.rd.len
          (refine W_at c21_ok ?_; refine ⟨_, rfl, ?_⟩; simp (disch := first | omega | assumption | rfl | (simp only [vcS] <;> omega) | fail) only [↓ptV_l, ↓vcA, vcB, ↓vcD, vcE, ↓reduceIte, Nat.reduceEqDiff, Nat.reduceAdd, Nat.reduceMul, Nat.reduceLeDiff, Int.reduceLE, Int.reduceLT, Int.reduceEq, Int.reduceToNat, Int.reduceAdd, Int.reduceSub, Int.reduceMul, Int.reduceNeg, reduceCtorEq, Option.bind_some, Option.map_some, List.length_cons, List.length_nil, vcM, List.getElem?_toArray, List.getElem?_cons_zero, List.getElem?_cons_succ, hgl])
          (refine W_at c21_ok ?_; refine ⟨_, rfl, ?_⟩; simp (disch := first | omega | assumption | rfl | (simp only [vcS] <;> omega) | fail) only [↓ptV_l, ↓vcA, vcB, ↓vcD, vcE, ↓reduceIte, Nat.reduceEqDiff, Nat.reduceAdd, Nat.reduceMul, Nat.reduceLeDiff, Int.reduceLE, Int.reduceLT, Int.reduceEq, Int.reduceToNat, Int.reduceAdd, Int.reduceSub, Int.reduceMul, Int.reduceNeg, reduceCtorEq, Option.bind_some, Option.map_some, List.length_cons, List.length_nil, vcM, List.getElem?_toArray, List.getElem?_cons_zero, List.getElem?_cons_succ])
          exact next w2 v1 v2 _ hV2 n2 hdis2
        | [a], _, _, n2, next, hS2 =>
          have hgl : lenR v2 = some (.int .i64 2) := n2.own.rd.len
          (refine W_at c21_ok ?_; refine ⟨_, rfl, ?_⟩; simp (disch := first | omega | assumption | rfl | (simp only [vcS] <;> omega) | fail) only [↓ptV_l, ↓vcA, vcB, ↓vcD, vcE, ↓reduceIte, Nat.reduceEqDiff, Nat.reduceAdd, Nat.reduceMul, Nat.reduceLeDiff, Int.reduceLE, Int.reduceLT, Int.reduceEq, Int.reduceToNat, Int.reduceAdd, Int.reduceSub, Int.reduceMul, Int.reduceNeg, reduceCtorEq, Option.bind_some, Option.map_some, List.length_cons, List.length_nil, vcM, List.getElem?_toArray, List.getElem?_cons_zero, List.getElem?_cons_succ, hgl])
          (refine W_at c21_ok ?_; refine ⟨_, rfl, ?_⟩; simp (disch := first | omega | assumption | rfl | (simp only [vcS] <;> omega) | fail) only [↓ptV_l, ↓vcA, vcB, ↓vcD, vcE, ↓reduceIte, Nat.reduceEqDiff, Nat.reduceAdd, Nat.reduceMul, Nat.reduceLeDiff, Int.reduceLE, Int.reduceLT, Int.reduceEq, Int.reduceToNat, Int.reduceAdd, Int.reduceSub, Int.reduceMul, Int.reduceNeg, reduceCtorEq, Option.bind_some, Option.map_some, List.length_cons, List.length_nil, vcM, List.getElem?_toArray, List.getElem?_cons_zero, List.getElem?_cons_succ])
          exact next w2 v1 v2 _ hV2 n2 hdis2
        | [a, b2], hb2, _, n2, next, hS2 =>
          have hgl : lenR v2 = some (.int .i64 3) := n2.own.rd.len
          have ha := hb2 a (by simp)
          have hbb := hb2 b2 (by simp)
          obtain ⟨b, o, c, hv2, hcell⟩ := n2.own.rd.at (i := 0) (by simp)
          have hv2' : v2 = .slice (some ⟨b, o, none⟩) 3 c := hv2
          clear hv2
          subst hv2'
          obtain ⟨_, _, _, e, hcell2⟩ := n2.own.rd.at (i := 1) (by simp)
          cases e
          obtain ⟨_, _, _, e, hcell3⟩ := n2.own.rd.at (i := 2) (by simp)
          cases e
          simp only [List.cons_append, List.nil_append, List.getElem_cons_zero, List.getElem_cons_succ, Nat.add_zero] at hcell hcell2 hcell3
          have m1 : IntKind.u8.wrap (9 * a) = 9 * a := by rw [wrap_u8]; omega
          have m2 : IntKind.u8.wrap (3 * b2) = 3 * b2 := by rw [wrap_u8]; omega
          have m3 : IntKind.u8.wrap (9 * a + 3 * b2) = 9 * a + 3 * b2 := by rw [wrap_u8]; omega
          have m4 : IntKind.u8.wrap (9 * a + 3 * b2 + p / 32) = 9 * a + 3 * b2 + p / 32 := by rw [wrap_u8]; omega
          (refine W_at c21_ok ?_; refine ⟨_, rfl, ?_⟩; simp (disch := first | omega | assumption | rfl | (simp only [vcS] <;> omega) | fail) only [↓ptV_l, ↓vcA, vcB, ↓vcD, vcE, ↓reduceIte, Nat.reduceEqDiff, Nat.reduceAdd, Nat.reduceMul, Nat.reduceLeDiff, Int.reduceLE, Int.reduceLT, Int.reduceEq, Int.reduceToNat, Int.reduceAdd, Int.reduceSub, Int.reduceMul, Int.reduceNeg, reduceCtorEq, Option.bind_some, Option.map_some, List.length_cons, List.length_nil, vcM, List.getElem?_toArray, List.getElem?_cons_zero, List.getElem?_cons_succ, hgl])
          (refine W_at c21_ok ?_; refine ⟨_, rfl, ?_⟩; simp (disch := first | omega | assumption | rfl | (simp only [vcS] <;> omega) | fail) only [↓ptV_l, ↓vcA, vcB, ↓vcD, vcE, ↓reduceIte, Nat.reduceEqDiff, Nat.reduceAdd, Nat.reduceMul, Nat.reduceLeDiff, Int.reduceLE, Int.reduceLT, Int.reduceEq, Int.reduceToNat, Int.reduceAdd, Int.reduceSub, Int.reduceMul, Int.reduceNeg, reduceCtorEq, Option.bind_some, Option.map_some, List.length_cons, List.length_nil, vcM, List.getElem?_toArray, List.getElem?_cons_zero, List.getElem?_cons_succ])
          (refine W_at c21_ok ?_; refine ⟨_, rfl, ?_⟩; simp (disch := first | omega | assumption | rfl | (simp only [vcS] <;> omega) | fail) only [↓ptV_l, ↓vcA, vcB, ↓vcD, vcE, ↓reduceIte, Nat.reduceEqDiff, Nat.reduceAdd, Nat.reduceMul, Nat.reduceLeDiff, Int.reduceLE, Int.reduceLT, Int.reduceEq, Int.reduceToNat, Int.reduceAdd, Int.reduceSub, Int.reduceMul, Int.reduceNeg, reduceCtorEq, Option.bind_some, Option.map_some, List.length_cons, List.length_nil, vcM, List.getElem?_toArray, List.getElem?_cons_zero, List.getElem?_cons_succ, hcell, hcell2, hcell3, m1, m2, m3, m4])
          refine appNL (news := [9 * a + 3 * b2 + p / 32]) (hV2.keep ((Keep.refl _ w2).drew)) (by simp; omega) fun v3 w3 n3 _ _ => ?_
          first | (simp (disch := first | omega | assumption | rfl | (simp only [vcS] <;> omega) | fail) only [↓ptV_l, ↓vcA, vcB, ↓vcD, vcE, ↓reduceIte, Nat.reduceEqDiff, Nat.reduceAdd, Nat.reduceMul, Nat.reduceLeDiff, Int.reduceLE, Int.reduceLT, Int.reduceEq, Int.reduceToNat, Int.reduceAdd, Int.reduceSub, Int.reduceMul, Int.reduceNeg, reduceCtorEq, Option.bind_some, Option.map_some, List.length_cons, List.length_nil, vcM, List.getElem?_toArray, List.getElem?_cons_zero, List.getElem?_cons_succ]) | skip
          exact next w3 v3 (.slice none 0 0) _ n3 ((New.nil w3).pre n3.ext) (fun g _ h => by cases h)
  exact L bs.length 0 w _ _ ([], []) _ (by omega) (New.nil w) (New.nil w) (fun g h => (by cases h)) ⟨byt_nil, (fun a h => by cases h), Nat.zero_le _, Nat.zero_le _⟩ rfl (fun p h => by simp [placesF] at h)
end Go.Proofs
namespace Go.Proofs
open Go.Vc
/- strongbox/text.base -/
def t43 : CT :=
  (.seq (.reg (.l (some 4) none (.box 3 (.tmp 1)) [] (.l (some 5) none (.box 3 (.tmp 2)) [] (.q (some 6) none (.mov (.const (.slice none 0 0))) .done))) false)
  (.seq (.reg (.l (some 7) none (.alloc 22 [(1, (.slice none 0 0))]) [] .done) false)
  (.seq (.seq (.reg (.q (some 13) none (.mov (.tmp 0)) (.l (some 14) none (.call 42 [(.tmp 13)]) [] .done)) false)
  (.blk 0 (.rng (.tmp 14) [15, 16] (.reg (.q (some 9) none (.mov (.tmp 16)) .done) false)
  (.blk 1 (.seq (.reg (.q (some 17) none (.mov (.tmp 9)) (.q (some 18) none (.cvi .i64 (.tmp 17)) (.q (some 10) none (.mov (.tmp 18)) .done))) false)
  (.seq (.seq (.reg (.q (some 19) none (.ld1 (.tmp 7)) (.q (some 20) none (.len (.tmp 19)) (.q (some 21) none (.mov (.const (.int .i64 0))) .done))) false)
  (.blk 2 (.loop (.seq (.reg (.q (some 22) none (.bin .lss (.tmp 21) (.tmp 20)) .done) false)
  (.seq (.cnd (.tmp 22) .skip
  (.exit 2))
  (.seq (.blk 3 (.seq (.reg (.q (some 23) none (.mov (.tmp 21)) (.q (some 24) none (.iadrS 1 (.tmp 19) (.tmp 21)) (.q (some 25) none (.ld1 (.tmp 24)) (.q (some 11) none (.mov (.tmp 23)) (.q (some 12) none (.mov (.tmp 25)) .done))))) false)
  (.seq (.reg (.q (some 26) none (.mov (.tmp 10)) (.q (some 27) none (.mov (.tmp 12)) (.q (some 28) none (.cvi .i64 (.tmp 27)) (.q (some 29) none (.ld1 (.tmp 4)) (.q (some 30) none (.bin .mul (.tmp 28) (.tmp 29)) (.q (some 31) none (.bin .add (.tmp 26) (.tmp 30)) (.q (some 10) none (.mov (.tmp 31)) .done))))))) false)
  (.seq (.reg (.q (some 32) none (.ld1 (.tmp 7)) (.q (some 33) none (.mov (.tmp 11)) (.q (some 34) none (.mov (.tmp 10)) (.q (some 35) none (.ld1 (.tmp 5)) (.q (some 36) none (.bin .rem (.tmp 34) (.tmp 35)) (.q (some 37) none (.cvi .u8 (.tmp 36)) (.q (some 38) none (.iadrS 1 (.tmp 32) (.tmp 33)) (.l none none (.st1 (.tmp 38) (.tmp 37)) [] .done)))))))) true)
  (.reg (.q (some 39) none (.mov (.tmp 10)) (.q (some 40) none (.ld1 (.tmp 5)) (.q (some 41) none (.bin .quo (.tmp 39) (.tmp 40)) (.q (some 10) none (.mov (.tmp 41)) .done)))) false)))))
  (.reg (.q (some 42) none (.bin .add (.tmp 21) (.const (.int .i64 1))) (.q (some 21) none (.mov (.tmp 42)) .done)) false)))))))
  (.blk 4 (.loop (.seq (.seq (.reg (.q (some 43) none (.mov (.tmp 10)) (.q (some 44) none (.bin .gtr (.tmp 43) (.const (.int .i64 0))) .done)) false)
  (.cnd (.tmp 44) .skip
  (.exit 4)))
  (.seq (.blk 5 (.reg (.q (some 48) none (.ld1 (.tmp 7)) (.q (some 49) none (.mov (.tmp 10)) (.q (some 50) none (.ld1 (.tmp 5)) (.q (some 51) none (.bin .rem (.tmp 49) (.tmp 50)) (.q (some 52) none (.cvi .u8 (.tmp 51)) (.l (some 53) none (.bldS 5 1 [(.tmp 52)]) [⟨48, none, (.ld1 (.tmp 7))⟩] (.l (some 54) none (.app 5 1 1 [(1, (.int .u8 0))] (.tmp 48) (.tmp 53)) [] (.l none none (.st1 (.tmp 7) (.tmp 54)) [] .done)))))))) true))
  (.reg (.q (some 45) none (.mov (.tmp 10)) (.q (some 46) none (.ld1 (.tmp 5)) (.q (some 47) none (.bin .quo (.tmp 45) (.tmp 46)) (.q (some 10) none (.mov (.tmp 47)) .done)))) false)))))))))))
  (.seq (.reg (.q (some 55) none (.ld1 (.tmp 7)) (.q (some 6) none (.mov (.tmp 55)) .done)) false)
  .ret))))
theorem t43_ok : ctOf Tryd.prog 43 false = some (56, [.t 6], t43) := by kernel_rfl
/- strongbox/text.Base58 -/
def t22 : CT :=
  (.seq (.reg (.q (some 2) none (.mov (.const (.string ⟨#[]⟩))) .done) false)
  (.seq (.reg (.q (some 9) none (.mov (.tmp 0)) (.q (some 10) none (.len (.tmp 9)) (.q (some 3) none (.mov (.tmp 10)) .done))) false)
  (.seq (.seq (.reg (.q (some 11) none (.mov (.tmp 0)) (.q (some 12) none (.len (.tmp 11)) (.q (some 13) none (.mov (.const (.int .i64 0))) .done))) false)
  (.blk 0 (.loop (.seq (.reg (.q (some 14) none (.bin .lss (.tmp 13) (.tmp 12)) .done) false)
  (.seq (.cnd (.tmp 14) .skip
  (.exit 0))
  (.seq (.blk 1 (.seq (.reg (.q (some 15) none (.mov (.tmp 13)) (.q (some 16) none (.iadrS 1 (.tmp 11) (.tmp 13)) (.q (some 17) none (.ld1 (.tmp 16)) (.q (some 4) none (.mov (.tmp 15)) (.q (some 5) none (.mov (.tmp 17)) .done))))) false)
  (.seq (.reg (.q (some 18) none (.mov (.tmp 5)) (.q (some 19) none (.bin .neq (.tmp 18) (.const (.int .u8 0))) .done)) false)
  (.cnd (.tmp 19) (.seq (.reg (.q (some 20) none (.mov (.tmp 4)) (.q (some 3) none (.mov (.tmp 20)) .done)) false)
  (.exit 0))
  .skip))))
  (.reg (.q (some 21) none (.bin .add (.tmp 13) (.const (.int .i64 1))) (.q (some 13) none (.mov (.tmp 21)) .done)) false)))))))
  (.seq (.reg (.q (some 22) none (.idxS (.const (.string ⟨#[49, 50, 51, 52, 53, 54, 55, 56, 57, 65, 66, 67, 68, 69, 70, 71, 72, 74, 75, 76, 77, 78, 80, 81, 82, 83, 84, 85, 86, 87, 88, 89, 90, 97, 98, 99, 100, 101, 102, 103, 104, 105, 106, 107, 109, 110, 111, 112, 113, 114, 115, 116, 117, 118, 119, 120, 121, 122]⟩)) (.const (.int .i64 0))) (.l (some 23) none (.bldS 5 1 [(.tmp 22)]) [] (.q (some 24) none (.mov (.tmp 3)) (.l (some 25) none (.call 41 [(.tmp 23), (.tmp 24)]) [] (.l (some 6) none (.alloc 22 [(1, (.slice none 0 0))]) [] (.l none none (.st1 (.tmp 6) (.tmp 25)) [] .done)))))) false)
  (.seq (.seq (.reg (.q (some 26) none (.mov (.tmp 0)) (.l (some 27) none (.call 44 [(.tmp 26)]) [] (.l (some 28) none (.call 43 [(.tmp 27), (.const (.int .i64 256)), (.const (.int .i64 58))]) [] (.l (some 29) none (.call 42 [(.tmp 28)]) [] .done)))) false)
  (.blk 2 (.rng (.tmp 29) [30, 31] (.reg (.q (some 8) none (.mov (.tmp 31)) .done) false)
  (.blk 3 (.reg (.q (some 32) none (.ld1 (.tmp 6)) (.q (some 33) none (.mov (.tmp 8)) (.q (some 34) none (.idxS (.const (.string ⟨#[49, 50, 51, 52, 53, 54, 55, 56, 57, 65, 66, 67, 68, 69, 70, 71, 72, 74, 75, 76, 77, 78, 80, 81, 82, 83, 84, 85, 86, 87, 88, 89, 90, 97, 98, 99, 100, 101, 102, 103, 104, 105, 106, 107, 109, 110, 111, 112, 113, 114, 115, 116, 117, 118, 119, 120, 121, 122]⟩)) (.tmp 33)) (.l (some 35) none (.bldS 5 1 [(.tmp 34)]) [⟨32, none, (.ld1 (.tmp 6))⟩] (.l (some 36) none (.app 5 1 1 [(1, (.int .u8 0))] (.tmp 32) (.tmp 35)) [] (.l none none (.st1 (.tmp 6) (.tmp 36)) [] .done)))))) true)))))
  (.seq (.reg (.q (some 37) none (.ld1 (.tmp 6)) (.q (some 38) none (.b2s (.tmp 37)) (.q (some 2) none (.mov (.tmp 38)) .done))) false)
  .ret))))))
theorem t22_ok : ctOf Tryd.prog 22 false = some (39, [.t 2], t22) := by kernel_rfl
/- slices.Backward[[]byte,byte]$1 -/
def t55 : CT :=
  (.seq (.reg (.q (some 4) none (.ld1 (.tmp 1)) (.q (some 5) none (.len (.tmp 4)) (.q (some 6) none (.bin .sub (.tmp 5) (.const (.int .i64 1))) (.q (some 3) none (.mov (.tmp 6)) .done)))) false)
  (.blk 0 (.loop (.seq (.seq (.reg (.q (some 7) none (.mov (.tmp 3)) (.q (some 8) none (.bin .geq (.tmp 7) (.const (.int .i64 0))) .done)) false)
  (.cnd (.tmp 8) .skip
  (.exit 0)))
  (.seq (.blk 1 (.seq (.yld (.q (some 11) none (.mov (.tmp 0)) (.q (some 12) none (.mov (.tmp 3)) (.q (some 13) none (.ld1 (.tmp 1)) (.q (some 14) none (.mov (.tmp 3)) (.q (some 15) none (.iadrS 1 (.tmp 13) (.tmp 14)) (.q (some 16) none (.ld1 (.tmp 15)) .done)))))) (some 17) (.tmp 11) [(.tmp 12), (.tmp 16)] (.q (some 18) none (.not (.tmp 17)) .done))
  (.cnd (.tmp 18) .ret
  .skip)))
  (.reg (.q (some 9) none (.mov (.tmp 3)) (.q (some 10) none (.bin .sub (.tmp 9) (.const (.int .i64 1))) (.q (some 3) none (.mov (.tmp 10)) .done))) false))))))
theorem t55_ok : ctOf Tryd.prog 55 true = some (19, [], t55) := by kernel_rfl
end Go.Proofs
namespace Go.Proofs
open Go.Vc Go.RowKit
set_option maxRecDepth 10000

def bkL (k j : Nat) : List (Fin k) := (List.finRange k).reverse.take j
theorem bkL_len {k j : Nat} (h : j ≤ k) : (bkL k j).length = j := by simp [bkL]; omega
theorem bkL_succ {k j : Nat} (h : j < k) : bkL k (j + 1) = bkL k j ++ [⟨k - 1 - j, by omega⟩] := by
  unfold bkL
  rw [List.take_add_one, List.getElem?_eq_getElem (by simpa using h)]
  simp
theorem Own1.kp {w w' : World} {v : Value} {bs : List Int} (h : Own1 w v bs) (k : ∀ g, Go.Proofs.blk v g → w'.heap[g]? = w.heap[g]?) : Own1 w' v bs := by
  obtain ⟨hs, h | ⟨g, cap, cur, rfl, hb, hg, r⟩⟩ := h
  · exact ⟨hs, .inl h⟩
  · exact ⟨hs, .inr ⟨g, cap, cur, rfl, hb, (k g rfl).trans hg, r⟩⟩
set_option maxHeartbeats 1600000 in
theorem back_stops (w0 : World) (b1 : Nat) (qv : Value) (ids : List Int) (T1 : TypeId) (h1 : w0.heap[b1]? = some (.cells #[qv] T1 (0, 0))) (hq : Own1 w0 qv ids) (hl : ids.length ≤ 1000000) :
    SeqStopsK (fen none) 2 Tryd.prog 55 #[.pointer (some ⟨b1, 0, none⟩)] (fun i : Fin ids.length => #[.int .i64 (i.val : Nat), .int .u8 ids[i.val]]) (KpB (b1 :: qv.ownBlock.toList))
      (fun xs => xs = (List.finRange ids.length).reverse) (fun pre => ∃ j, pre = bkL ids.length j) ids.length w0 := by
  intro l J Jx W hW hJ hJx hY h0
  refine callsIn_of_ct t55_ok (Nat.le_of_ble_eq_true rfl) ?_
  simp only [List.toList_toArray, Array.toList_append, List.cons_append, List.nil_append]
  simp only [argE_nil, argE_cons, Nat.reduceAdd, Nat.zero_add]
  have m1 := (hW.block b1 (Array.getElem?_eq_some_iff.1 h1).1).trans h1
  have q1 : Own1 W qv ids := hq.kp fun g hg => hW.block g (hq.lt hg)
  have hlen := hq.rd.len
  have hws : IntKind.i64.wrap ((ids.length : Int) - 1) = (ids.length : Int) - 1 := wrap_i64 (by omega) (by omega)
  simp (disch := first | omega | assumption | rfl | (simp only [vcS] <;> omega) | fail) only [t55, ↓vcC, slc3_s, ↓ptV_l, ↓vcA, vcB, ↓vcD, vcE, ↓reduceIte, Nat.reduceEqDiff, Nat.reduceAdd, Nat.reduceMul, Nat.reduceLeDiff, Int.reduceLE, Int.reduceLT, Int.reduceEq, Int.reduceToNat, Int.reduceAdd, Int.reduceSub, Int.reduceMul, Int.reduceNeg, reduceCtorEq, Option.bind_some, Option.map_some, List.length_cons, List.length_nil, vcM, List.getElem?_toArray, List.getElem?_cons_zero, List.getElem?_cons_succ, m1, hlen, hws]
  (refine nx_at ?_; simp (disch := first | omega | assumption | rfl | (simp only [vcS] <;> omega) | fail) only [↓vcC, slc3_s, ↓ptV_l, ↓vcA, vcB, ↓vcD, vcE, ↓reduceIte, Nat.reduceEqDiff, Nat.reduceAdd, Nat.reduceMul, Nat.reduceLeDiff, Int.reduceLE, Int.reduceLT, Int.reduceEq, Int.reduceToNat, Int.reduceAdd, Int.reduceSub, Int.reduceMul, Int.reduceNeg, reduceCtorEq, Option.bind_some, Option.map_some, List.length_cons, List.length_nil, vcM, List.getElem?_toArray, List.getElem?_cons_zero, List.getElem?_cons_succ])
  refine lp_of (fun j ds e W => ds = [] ∧ ∃ i, i + j = ids.length ∧ Vc.look e 3 = some (.int .i64 ((ids.length : Int) - 1 - (i : Nat))) ∧ Vc.look e 0 = some (.func (.yield l) #[] #[]) ∧ Vc.look e 1 = some (.pointer (some ⟨b1, 0, none⟩)) ∧
    J (bkL ids.length i) W ∧ W.heap[b1]? = some (.cells #[qv] T1 (0, 0)) ∧ Own1 W qv ids) ids.length ?_ ?_
  · exact ⟨rfl, 0, by omega, by simp [Vc.look], rfl, rfl, h0, m1, q1⟩
  clear h0 m1 hW q1
  generalize W.heap.size = B at hJ hJx
  clear W
  rintro j ds e W ⟨rfl, i, hi, l3, l0, l1, hJi, m1, q1⟩
  by_cases hik : i < ids.length
  · have c1 : 0 ≤ (ids.length : Int) - 1 - (i : Nat) := by omega
    simp (disch := first | omega | assumption | rfl | (simp only [vcS] <;> omega) | fail) only [↓vcC, slc3_s, ↓ptV_l, ↓vcA, vcB, ↓vcD, vcE, ↓reduceIte, Nat.reduceEqDiff, Nat.reduceAdd, Nat.reduceMul, Nat.reduceLeDiff, Int.reduceLE, Int.reduceLT, Int.reduceEq, Int.reduceToNat, Int.reduceAdd, Int.reduceSub, Int.reduceMul, Int.reduceNeg, reduceCtorEq, Option.bind_some, Option.map_some, List.length_cons, List.length_nil, vcM, List.getElem?_toArray, List.getElem?_cons_zero, List.getElem?_cons_succ, l3, c1]
    (refine nx_at ?_; simp (disch := first | omega | assumption | rfl | (simp only [vcS] <;> omega) | fail) only [↓vcC, slc3_s, ↓ptV_l, ↓vcA, vcB, ↓vcD, vcE, ↓reduceIte, Nat.reduceEqDiff, Nat.reduceAdd, Nat.reduceMul, Nat.reduceLeDiff, Int.reduceLE, Int.reduceLT, Int.reduceEq, Int.reduceToNat, Int.reduceAdd, Int.reduceSub, Int.reduceMul, Int.reduceNeg, reduceCtorEq, Option.bind_some, Option.map_some, List.length_cons, List.length_nil, vcM, List.getElem?_toArray, List.getElem?_cons_zero, List.getElem?_cons_succ])
    obtain ⟨g, o, cap, rfl, hrd⟩ := q1.rd.at (i := ids.length - 1 - i) (by omega)
    have c2 : (ids.length : Int) - 1 - (i : Nat) = ((ids.length - 1 - i : Nat) : Int) := by omega
    rw [c2] at l3 c1
    have c3 : 0 ≤ ((ids.length - 1 - i : Nat) : Int) ∧ ((ids.length - 1 - i : Nat) : Int) < (ids.length : Nat) := by omega
    (refine nx_at ?_; simp (disch := first | omega | assumption | rfl | (simp only [vcS] <;> omega) | fail) only [↓vcC, slc3_s, ↓ptV_l, ↓vcA, vcB, ↓vcD, vcE, ↓reduceIte, Nat.reduceEqDiff, Nat.reduceAdd, Nat.reduceMul, Nat.reduceLeDiff, Int.reduceLE, Int.reduceLT, Int.reduceEq, Int.reduceToNat, Int.reduceAdd, Int.reduceSub, Int.reduceMul, Int.reduceNeg, reduceCtorEq, Option.bind_some, Option.map_some, List.length_cons, List.length_nil, vcM, List.getElem?_toArray, List.getElem?_cons_zero, List.getElem?_cons_succ, l3, l0, l1, m1, c3, Int.toNat_natCast, Nat.mul_one, hrd])
    refine yv_of (hY (bkL ids.length i) ⟨ids.length - 1 - i, by omega⟩ W hJi (by rw [bkL_len (by omega)]; exact hik)) ?_
    rintro en W2 (⟨rfl, hJ2, hB2⟩ | ⟨rfl, hJx2⟩)
    · refine ⟨_, rfl, ?_⟩
      have m1' := (hB2 b1 (by simp)).trans m1
      have q2 := q1.kp fun g' hg' => hB2 g' (by
        have hg2 : (Value.slice (some ⟨g, o, none⟩) ids.length cap).ownBlock = some g' := hg'
        rw [hg2]; simp)
      have c4 : IntKind.i64.wrap (((ids.length - 1 - i : Nat) : Int) - 1) = (ids.length : Int) - 1 - ((i + 1 : Nat)) := by rw [wrap_i64 (by omega) (by omega)]; omega
      simp (disch := first | omega | assumption | rfl | (simp only [vcS] <;> omega) | fail) only [↓vcC, slc3_s, ↓ptV_l, ↓vcA, vcB, ↓vcD, vcE, ↓reduceIte, Nat.reduceEqDiff, Nat.reduceAdd, Nat.reduceMul, Nat.reduceLeDiff, Int.reduceLE, Int.reduceLT, Int.reduceEq, Int.reduceToNat, Int.reduceAdd, Int.reduceSub, Int.reduceMul, Int.reduceNeg, reduceCtorEq, Option.bind_some, Option.map_some, List.length_cons, List.length_nil, vcM, List.getElem?_toArray, List.getElem?_cons_zero, List.getElem?_cons_succ]
      (refine nx_at ?_; simp (disch := first | omega | assumption | rfl | (simp only [vcS] <;> omega) | fail) only [↓vcC, slc3_s, ↓ptV_l, ↓vcA, vcB, ↓vcD, vcE, ↓reduceIte, Nat.reduceEqDiff, Nat.reduceAdd, Nat.reduceMul, Nat.reduceLeDiff, Int.reduceLE, Int.reduceLT, Int.reduceEq, Int.reduceToNat, Int.reduceAdd, Int.reduceSub, Int.reduceMul, Int.reduceNeg, reduceCtorEq, Option.bind_some, Option.map_some, List.length_cons, List.length_nil, vcM, List.getElem?_toArray, List.getElem?_cons_zero, List.getElem?_cons_succ])
      (refine nx_at ?_; simp (disch := first | omega | assumption | rfl | (simp only [vcS] <;> omega) | fail) only [↓vcC, slc3_s, ↓ptV_l, ↓vcA, vcB, ↓vcD, vcE, ↓reduceIte, Nat.reduceEqDiff, Nat.reduceAdd, Nat.reduceMul, Nat.reduceLeDiff, Int.reduceLE, Int.reduceLT, Int.reduceEq, Int.reduceToNat, Int.reduceAdd, Int.reduceSub, Int.reduceMul, Int.reduceNeg, reduceCtorEq, Option.bind_some, Option.map_some, List.length_cons, List.length_nil, vcM, List.getElem?_toArray, List.getElem?_cons_zero, List.getElem?_cons_succ, l3, l1, m1', c4])
      refine ⟨j - 1, by omega, i + 1, by omega, rfl, l0, by rw [bkL_succ hik]; exact hJ2, q2⟩
    · refine ⟨_, rfl, ?_⟩
      simp (disch := first | omega | assumption | rfl | (simp only [vcS] <;> omega) | fail) only [↓vcC, slc3_s, ↓ptV_l, ↓vcA, vcB, ↓vcD, vcE, ↓reduceIte, Nat.reduceEqDiff, Nat.reduceAdd, Nat.reduceMul, Nat.reduceLeDiff, Int.reduceLE, Int.reduceLT, Int.reduceEq, Int.reduceToNat, Int.reduceAdd, Int.reduceSub, Int.reduceMul, Int.reduceNeg, reduceCtorEq, Option.bind_some, Option.map_some, List.length_cons, List.length_nil, vcM, List.getElem?_toArray, List.getElem?_cons_zero, List.getElem?_cons_succ]
      (refine nx_at ?_; simp (disch := first | omega | assumption | rfl | (simp only [vcS] <;> omega) | fail) only [↓vcC, slc3_s, ↓ptV_l, ↓vcA, vcB, ↓vcD, vcE, ↓reduceIte, Nat.reduceEqDiff, Nat.reduceAdd, Nat.reduceMul, Nat.reduceLeDiff, Int.reduceLE, Int.reduceLT, Int.reduceEq, Int.reduceToNat, Int.reduceAdd, Int.reduceSub, Int.reduceMul, Int.reduceNeg, reduceCtorEq, Option.bind_some, Option.map_some, List.length_cons, List.length_nil, vcM, List.getElem?_toArray, List.getElem?_cons_zero, List.getElem?_cons_succ])
      exact ⟨⟨_, rfl⟩, .inr ⟨_, ⟨i + 1, (bkL_succ hik).symm⟩, hJx2⟩⟩
  · obtain rfl : i = ids.length := by omega
    have c1 : ¬ 0 ≤ (ids.length : Int) - 1 - (ids.length : Nat) := by omega
    simp (disch := first | omega | assumption | rfl | (simp only [vcS] <;> omega) | fail) only [↓vcC, slc3_s, ↓ptV_l, ↓vcA, vcB, ↓vcD, vcE, ↓reduceIte, Nat.reduceEqDiff, Nat.reduceAdd, Nat.reduceMul, Nat.reduceLeDiff, Int.reduceLE, Int.reduceLT, Int.reduceEq, Int.reduceToNat, Int.reduceAdd, Int.reduceSub, Int.reduceMul, Int.reduceNeg, reduceCtorEq, Option.bind_some, Option.map_some, List.length_cons, List.length_nil, vcM, List.getElem?_toArray, List.getElem?_cons_zero, List.getElem?_cons_succ, l3, c1]
    (refine nx_at ?_; simp (disch := first | omega | assumption | rfl | (simp only [vcS] <;> omega) | fail) only [↓vcC, slc3_s, ↓ptV_l, ↓vcA, vcB, ↓vcD, vcE, ↓reduceIte, Nat.reduceEqDiff, Nat.reduceAdd, Nat.reduceMul, Nat.reduceLeDiff, Int.reduceLE, Int.reduceLT, Int.reduceEq, Int.reduceToNat, Int.reduceAdd, Int.reduceSub, Int.reduceMul, Int.reduceNeg, reduceCtorEq, Option.bind_some, Option.map_some, List.length_cons, List.length_nil, vcM, List.getElem?_toArray, List.getElem?_cons_zero, List.getElem?_cons_succ])
    refine ⟨⟨_, rfl⟩, .inl ⟨_, rfl, ?_⟩⟩
    unfold bkL at hJi
    rwa [List.take_of_length_le (by simp)] at hJi
theorem back_ok (w : World) (x : Value) (hx : x.cells = #[x]) :
    Calls Tryd.prog 42 #[x] w (Ret fun u w' => ∃ b1 T1, u = .func (.func 55) #[] #[.pointer (some ⟨b1, 0, none⟩)] ∧
      w'.heap[b1]? = some (.cells #[x] T1 (0, 0)) ∧ Ext w w' ∧ b1 < w'.heap.size ∧ w.heap.size ≤ b1 ∧ T1 = 22) := by
  refine calls_of_cfg c42_ok (Nat.le_of_ble_eq_true rfl) ?_
  simp only [argE_nil, argE_cons, Nat.reduceAdd, Nat.zero_add]
  (refine W_at c42_ok ?_; refine ⟨_, rfl, ?_⟩; simp (disch := first | omega | assumption | rfl | (simp only [vcS] <;> omega) | fail) only [↓ptV_l, ↓vcA, vcB, ↓vcD, vcE, ↓reduceIte, Nat.reduceEqDiff, Nat.reduceAdd, Nat.reduceMul, Nat.reduceLeDiff, Int.reduceLE, Int.reduceLT, Int.reduceEq, Int.reduceToNat, Int.reduceAdd, Int.reduceSub, Int.reduceMul, Int.reduceNeg, reduceCtorEq, Option.bind_some, Option.map_some, List.length_cons, List.length_nil, vcM, List.getElem?_toArray, List.getElem?_cons_zero, List.getElem?_cons_succ, hx])
  (refine W_at c42_ok ?_; refine ⟨_, rfl, ?_⟩; simp (disch := first | omega | assumption | rfl | (simp only [vcS] <;> omega) | fail) only [↓ptV_l, ↓vcA, vcB, ↓vcD, vcE, ↓reduceIte, Nat.reduceEqDiff, Nat.reduceAdd, Nat.reduceMul, Nat.reduceLeDiff, Int.reduceLE, Int.reduceLT, Int.reduceEq, Int.reduceToNat, Int.reduceAdd, Int.reduceSub, Int.reduceMul, Int.reduceNeg, reduceCtorEq, Option.bind_some, Option.map_some, List.length_cons, List.length_nil, vcM, List.getElem?_toArray, List.getElem?_cons_zero, List.getElem?_cons_succ])
  (refine W_at c42_ok ?_; refine ⟨_, rfl, ?_⟩; simp (disch := first | omega | assumption | rfl | (simp only [vcS] <;> omega) | fail) only [↓ptV_l, ↓vcA, vcB, ↓vcD, vcE, ↓reduceIte, Nat.reduceEqDiff, Nat.reduceAdd, Nat.reduceMul, Nat.reduceLeDiff, Int.reduceLE, Int.reduceLT, Int.reduceEq, Int.reduceToNat, Int.reduceAdd, Int.reduceSub, Int.reduceMul, Int.reduceNeg, reduceCtorEq, Option.bind_some, Option.map_some, List.length_cons, List.length_nil, vcM, List.getElem?_toArray, List.getElem?_cons_zero, List.getElem?_cons_succ, Ret_returned])
  exact ⟨_, _, rfl, heap_new _ _ _ rfl, (Keep.refl _ w).alloc _, by omega, Nat.le_refl _, rfl⟩
theorem turned3_ok (w : World) (v : Value) (a b c : Int) (h : Rd w v [a, b, c]) :
    Calls Tryd.prog 44 #[v] w (Ret fun u w' => New w w' u [c, b, a]) := by
  refine calls_of_cfg c44_ok (Nat.le_of_ble_eq_true rfl) ?_
  simp only [argE_nil, argE_cons, Nat.reduceAdd, Nat.zero_add]
  (refine W_at c44_ok ?_; refine ⟨_, rfl, ?_⟩; simp (disch := first | omega | assumption | rfl | (simp only [vcS] <;> omega) | fail) only [↓ptV_l, ↓vcA, vcB, ↓vcD, vcE, ↓reduceIte, Nat.reduceEqDiff, Nat.reduceAdd, Nat.reduceMul, Nat.reduceLeDiff, Int.reduceLE, Int.reduceLT, Int.reduceEq, Int.reduceToNat, Int.reduceAdd, Int.reduceSub, Int.reduceMul, Int.reduceNeg, reduceCtorEq, Option.bind_some, Option.map_some, List.length_cons, List.length_nil, vcM, List.getElem?_toArray, List.getElem?_cons_zero, List.getElem?_cons_succ])
  (refine W_at c44_ok ?_; refine ⟨_, rfl, ?_⟩; simp (disch := first | omega | assumption | rfl | (simp only [vcS] <;> omega) | fail) only [↓ptV_l, ↓vcA, vcB, ↓vcD, vcE, ↓reduceIte, Nat.reduceEqDiff, Nat.reduceAdd, Nat.reduceMul, Nat.reduceLeDiff, Int.reduceLE, Int.reduceLT, Int.reduceEq, Int.reduceToNat, Int.reduceAdd, Int.reduceSub, Int.reduceMul, Int.reduceNeg, reduceCtorEq, Option.bind_some, Option.map_some, List.length_cons, List.length_nil, vcM, List.getElem?_toArray, List.getElem?_cons_zero, List.getElem?_cons_succ])
  refine callV_ret (sclone_ok w v _ h (by simp)) ?_
  rintro u w1 hN
  first | (simp (disch := first | omega | assumption | rfl | (simp only [vcS] <;> omega) | fail) only [↓ptV_l, ↓vcA, vcB, ↓vcD, vcE, ↓reduceIte, Nat.reduceEqDiff, Nat.reduceAdd, Nat.reduceMul, Nat.reduceLeDiff, Int.reduceLE, Int.reduceLT, Int.reduceEq, Int.reduceToNat, Int.reduceAdd, Int.reduceSub, Int.reduceMul, Int.reduceNeg, reduceCtorEq, Option.bind_some, Option.map_some, List.length_cons, List.length_nil, vcM, List.getElem?_toArray, List.getElem?_cons_zero, List.getElem?_cons_succ]) | skip
  (refine W_at c44_ok ?_; refine ⟨_, rfl, ?_⟩; simp (disch := first | omega | assumption | rfl | (simp only [vcS] <;> omega) | fail) only [↓ptV_l, ↓vcA, vcB, ↓vcD, vcE, ↓reduceIte, Nat.reduceEqDiff, Nat.reduceAdd, Nat.reduceMul, Nat.reduceLeDiff, Int.reduceLE, Int.reduceLT, Int.reduceEq, Int.reduceToNat, Int.reduceAdd, Int.reduceSub, Int.reduceMul, Int.reduceNeg, reduceCtorEq, Option.bind_some, Option.map_some, List.length_cons, List.length_nil, vcM, List.getElem?_toArray, List.getElem?_cons_zero, List.getElem?_cons_succ])
  have rev : Calls Tryd.prog 56 #[u] w1 (Ret fun _ w' => New w w' u [c, b, a]) := by
    refine calls_of_cfg c56_ok (Nat.le_of_ble_eq_true rfl) ?_
    simp only [argE_nil, argE_cons, Nat.reduceAdd, Nat.zero_add]
    have hlen : lenR u = some (.int .i64 3) := hN.own.rd.len
    obtain ⟨g, o, cap, hu, hcell⟩ := hN.own.rd.at (i := 0) (by simp)
    obtain ⟨_, _, _, e, hcell2⟩ := hN.own.rd.at (i := 2) (by simp)
    have hg0 : o = 0 := by
      rcases hN.own.2 with ⟨e1, _⟩ | ⟨g', cap', cur', e1, _⟩
      · rw [hu] at e1; cases e1
      · rw [hu] at e1; cases e1; rfl
    subst hg0
    have hu' : u = .slice (some ⟨g, 0, none⟩) 3 cap := hu
    rw [hu] at e
    cases e
    clear hu
    subst hu'
    simp only [List.getElem_cons_zero, List.getElem_cons_succ] at hcell hcell2
    have k2 : IntKind.i64.wrap 2 = 2 := by decide
    have k1 : IntKind.i64.wrap 1 = 1 := by decide
    have hp : ∃ cur, w1.heap[g]? = some (.cells cur 5 (0, 0)) ∧ 3 ≤ cur.size := by
      rcases hN.own.2 with ⟨e1, _⟩ | ⟨g', cap', cur', e1, _, hg, hn, _, hcs, _⟩
      · cases e1
      · cases e1; exact ⟨_, hg, by rw [hcs]; simp at hn; omega⟩
    obtain ⟨cur, hg, hcs⟩ := hp
    rw [Nat.zero_add] at hcell hcell2
    (refine W_at c56_ok ?_; refine ⟨_, rfl, ?_⟩; simp (disch := first | omega | assumption | rfl | (simp only [vcS] <;> omega) | fail) only [↓ptV_l, ↓vcA, vcB, ↓vcD, vcE, ↓reduceIte, Nat.reduceEqDiff, Nat.reduceAdd, Nat.reduceMul, Nat.reduceLeDiff, Int.reduceLE, Int.reduceLT, Int.reduceEq, Int.reduceToNat, Int.reduceAdd, Int.reduceSub, Int.reduceMul, Int.reduceNeg, reduceCtorEq, Option.bind_some, Option.map_some, List.length_cons, List.length_nil, vcM, List.getElem?_toArray, List.getElem?_cons_zero, List.getElem?_cons_succ, hlen, k2])
    (refine W_at c56_ok ?_; refine ⟨_, rfl, ?_⟩; simp (disch := first | omega | assumption | rfl | (simp only [vcS] <;> omega) | fail) only [↓ptV_l, ↓vcA, vcB, ↓vcD, vcE, ↓reduceIte, Nat.reduceEqDiff, Nat.reduceAdd, Nat.reduceMul, Nat.reduceLeDiff, Int.reduceLE, Int.reduceLT, Int.reduceEq, Int.reduceToNat, Int.reduceAdd, Int.reduceSub, Int.reduceMul, Int.reduceNeg, reduceCtorEq, Option.bind_some, Option.map_some, List.length_cons, List.length_nil, vcM, List.getElem?_toArray, List.getElem?_cons_zero, List.getElem?_cons_succ])
    (refine W_at c56_ok ?_; refine ⟨_, rfl, ?_⟩; simp (disch := first | omega | assumption | rfl | (simp only [vcS] <;> omega) | fail) only [↓ptV_l, ↓vcA, vcB, ↓vcD, vcE, ↓reduceIte, Nat.reduceEqDiff, Nat.reduceAdd, Nat.reduceMul, Nat.reduceLeDiff, Int.reduceLE, Int.reduceLT, Int.reduceEq, Int.reduceToNat, Int.reduceAdd, Int.reduceSub, Int.reduceMul, Int.reduceNeg, reduceCtorEq, Option.bind_some, Option.map_some, List.length_cons, List.length_nil, vcM, List.getElem?_toArray, List.getElem?_cons_zero, List.getElem?_cons_succ])
    (refine W_at c56_ok ?_; refine ⟨_, rfl, ?_⟩; simp (disch := first | omega | assumption | rfl | (simp only [vcS] <;> omega) | fail) only [↓ptV_l, ↓vcA, vcB, ↓vcD, vcE, ↓reduceIte, Nat.reduceEqDiff, Nat.reduceAdd, Nat.reduceMul, Nat.reduceLeDiff, Int.reduceLE, Int.reduceLT, Int.reduceEq, Int.reduceToNat, Int.reduceAdd, Int.reduceSub, Int.reduceMul, Int.reduceNeg, reduceCtorEq, Option.bind_some, Option.map_some, List.length_cons, List.length_nil, vcM, List.getElem?_toArray, List.getElem?_cons_zero, List.getElem?_cons_succ, Nat.mul_one, hcell, hcell2])
    obtain ⟨r1, o1⟩ := (hN.own.ext ((Keep.refl _ w1).drew)).set1 (i := 0) (by simp) c
    have kk : Keep (fun i => i = g) w1 (w1.drew.setCell ⟨g, 0, none⟩ (.int .u8 c)) := ((Keep.refl _ w1).drew).setCell _ fun _ => rfl
    first | (refine ⟨r1, ?_⟩) | skip
    generalize World.setCell _ _ _ = w2 at o1 kk ⊢
    obtain ⟨r2, o2⟩ := o1.set1 (i := 2) (by simp) a
    have kk2 := kk.setCell (b := g) (o := 2) (s := none) (.int .u8 a) fun _ => rfl
    first | (refine ⟨r2, ?_⟩) | skip
    generalize World.setCell _ _ _ = w3 at o2 kk2 ⊢
    (refine W_at c56_ok ?_; refine ⟨_, rfl, ?_⟩; simp (disch := first | omega | assumption | rfl | (simp only [vcS] <;> omega) | fail) only [↓ptV_l, ↓vcA, vcB, ↓vcD, vcE, ↓reduceIte, Nat.reduceEqDiff, Nat.reduceAdd, Nat.reduceMul, Nat.reduceLeDiff, Int.reduceLE, Int.reduceLT, Int.reduceEq, Int.reduceToNat, Int.reduceAdd, Int.reduceSub, Int.reduceMul, Int.reduceNeg, reduceCtorEq, Option.bind_some, Option.map_some, List.length_cons, List.length_nil, vcM, List.getElem?_toArray, List.getElem?_cons_zero, List.getElem?_cons_succ, k1])
    (refine W_at c56_ok ?_; refine ⟨_, rfl, ?_⟩; simp (disch := first | omega | assumption | rfl | (simp only [vcS] <;> omega) | fail) only [↓ptV_l, ↓vcA, vcB, ↓vcD, vcE, ↓reduceIte, Nat.reduceEqDiff, Nat.reduceAdd, Nat.reduceMul, Nat.reduceLeDiff, Int.reduceLE, Int.reduceLT, Int.reduceEq, Int.reduceToNat, Int.reduceAdd, Int.reduceSub, Int.reduceMul, Int.reduceNeg, reduceCtorEq, Option.bind_some, Option.map_some, List.length_cons, List.length_nil, vcM, List.getElem?_toArray, List.getElem?_cons_zero, List.getElem?_cons_succ])
    (refine W_at c56_ok ?_; refine ⟨_, rfl, ?_⟩; simp (disch := first | omega | assumption | rfl | (simp only [vcS] <;> omega) | fail) only [↓ptV_l, ↓vcA, vcB, ↓vcD, vcE, ↓reduceIte, Nat.reduceEqDiff, Nat.reduceAdd, Nat.reduceMul, Nat.reduceLeDiff, Int.reduceLE, Int.reduceLT, Int.reduceEq, Int.reduceToNat, Int.reduceAdd, Int.reduceSub, Int.reduceMul, Int.reduceNeg, reduceCtorEq, Option.bind_some, Option.map_some, List.length_cons, List.length_nil, vcM, List.getElem?_toArray, List.getElem?_cons_zero, List.getElem?_cons_succ])
    (refine W_at c56_ok ?_; refine ⟨_, rfl, ?_⟩; simp (disch := first | omega | assumption | rfl | (simp only [vcS] <;> omega) | fail) only [↓ptV_l, ↓vcA, vcB, ↓vcD, vcE, ↓reduceIte, Nat.reduceEqDiff, Nat.reduceAdd, Nat.reduceMul, Nat.reduceLeDiff, Int.reduceLE, Int.reduceLT, Int.reduceEq, Int.reduceToNat, Int.reduceAdd, Int.reduceSub, Int.reduceMul, Int.reduceNeg, reduceCtorEq, Option.bind_some, Option.map_some, List.length_cons, List.length_nil, vcM, List.getElem?_toArray, List.getElem?_cons_zero, List.getElem?_cons_succ])
    (refine W_at c56_ok ?_; refine ⟨_, rfl, ?_⟩; simp (disch := first | omega | assumption | rfl | (simp only [vcS] <;> omega) | fail) only [↓ptV_l, ↓vcA, vcB, ↓vcD, vcE, ↓reduceIte, Nat.reduceEqDiff, Nat.reduceAdd, Nat.reduceMul, Nat.reduceLeDiff, Int.reduceLE, Int.reduceLT, Int.reduceEq, Int.reduceToNat, Int.reduceAdd, Int.reduceSub, Int.reduceMul, Int.reduceNeg, reduceCtorEq, Option.bind_some, Option.map_some, List.length_cons, List.length_nil, vcM, List.getElem?_toArray, List.getElem?_cons_zero, List.getElem?_cons_succ, Ret_returned])
    have hgn := hN.new g rfl
    exact ⟨o2, hN.ext.trans kk2 fun i hi e => by omega, hN.new⟩
  refine callV_ret rev ?_
  rintro _ w2 hN2
  first | (simp (disch := first | omega | assumption | rfl | (simp only [vcS] <;> omega) | fail) only [↓ptV_l, ↓vcA, vcB, ↓vcD, vcE, ↓reduceIte, Nat.reduceEqDiff, Nat.reduceAdd, Nat.reduceMul, Nat.reduceLeDiff, Int.reduceLE, Int.reduceLT, Int.reduceEq, Int.reduceToNat, Int.reduceAdd, Int.reduceSub, Int.reduceMul, Int.reduceNeg, reduceCtorEq, Option.bind_some, Option.map_some, List.length_cons, List.length_nil, vcM, List.getElem?_toArray, List.getElem?_cons_zero, List.getElem?_cons_succ]) | skip
  (refine W_at c44_ok ?_; refine ⟨_, rfl, ?_⟩; simp (disch := first | omega | assumption | rfl | (simp only [vcS] <;> omega) | fail) only [↓ptV_l, ↓vcA, vcB, ↓vcD, vcE, ↓reduceIte, Nat.reduceEqDiff, Nat.reduceAdd, Nat.reduceMul, Nat.reduceLeDiff, Int.reduceLE, Int.reduceLT, Int.reduceEq, Int.reduceToNat, Int.reduceAdd, Int.reduceSub, Int.reduceMul, Int.reduceNeg, reduceCtorEq, Option.bind_some, Option.map_some, List.length_cons, List.length_nil, vcM, List.getElem?_toArray, List.getElem?_cons_zero, List.getElem?_cons_succ])
  (refine W_at c44_ok ?_; refine ⟨_, rfl, ?_⟩; simp (disch := first | omega | assumption | rfl | (simp only [vcS] <;> omega) | fail) only [↓ptV_l, ↓vcA, vcB, ↓vcD, vcE, ↓reduceIte, Nat.reduceEqDiff, Nat.reduceAdd, Nat.reduceMul, Nat.reduceLeDiff, Int.reduceLE, Int.reduceLT, Int.reduceEq, Int.reduceToNat, Int.reduceAdd, Int.reduceSub, Int.reduceMul, Int.reduceNeg, reduceCtorEq, Option.bind_some, Option.map_some, List.length_cons, List.length_nil, vcM, List.getElem?_toArray, List.getElem?_cons_zero, List.getElem?_cons_succ, Ret_returned])
  exact hN2
end Go.Proofs
namespace Go.Proofs
open Go.Vc Go.RowKit
set_option maxRecDepth 10000

theorem keepsFrom_of {S : Nat → Prop} {B : Nat} {w w' : World} (h : Keep S w w') (hS : ∀ k, S k → ∀ o, w.heap[k]? = some o → o.isCells = true) : KeepsFrom B w w' := by
  refine ⟨h.size, fun k o _ hk ho => ?_⟩
  have hs : ¬ S k := fun hs => by rw [hS k hs o hk] at ho; cases ho
  exact (h.block k (Array.getElem?_eq_some_iff.1 hk).1 hs).trans hk
theorem at_own {B : Nat} {w w' : World} {row : Option Nat} {p : Nat} {c : Array Value} {t : TypeId} {fr : Nat × Nat} (hg : w.grownBy w' row) (hr : ∀ r, row = some r → B ≤ r ∧ ∃ o : Obj, w.heap[r]? = some o ∧ o.isCells = false)
    (h : w.heap[p]? = some (.cells c t fr)) : w'.heap[p]? = some (.cells c t fr) :=
  (keep_grow hg hr).at h fun hn => by obtain ⟨_, o, ho, hc⟩ := hn; rw [h] at ho; cases ho; cases hc
/-- What one digit more makes of the digits so far: the old places, and what is carried on. -/
def carryF : List Int → Int → List Int × Int
  | [], c => ([], c)
  | x :: o, c => ((c + x * 256) % 58 :: (carryF o ((c + x * 256) / 58)).1, (carryF o ((c + x * 256) / 58)).2)
def digF : Nat → Int → List Int
  | 0, _ => []
  | k + 1, c => if 0 < c then c % 58 :: digF k (c / 58) else []
def mulF (o : List Int) (d : Int) : List Int := (carryF o d).1 ++ digF 256 (carryF o d).2
def D58 (o : List Int) : Prop := ∀ x ∈ o, 0 ≤ x ∧ x ≤ 57
theorem carryF_ok : ∀ {o : List Int} {c : Int}, D58 o → 0 ≤ c ∧ c ≤ 255 → D58 (carryF o c).1 ∧ (0 ≤ (carryF o c).2 ∧ (carryF o c).2 ≤ 255) ∧ (carryF o c).1.length = o.length
  | [], c, _, hc => ⟨fun x h => (by cases h), hc, rfl⟩
  | x :: o, c, ho, hc => by
    have hx := ho x (by simp)
    have ih := carryF_ok (o := o) (c := (c + x * 256) / 58) (fun y hy => ho y (List.mem_cons_of_mem _ hy)) (by omega)
    refine ⟨fun y hy => ?_, ih.2.1, by simp [carryF, ih.2.2]⟩
    rcases List.mem_cons.1 hy with rfl | hy
    · omega
    · exact ih.1 y hy
theorem digF_ok : ∀ (k : Nat) {c : Int}, 0 ≤ c → D58 (digF k c)
  | 0, _, _ => fun x h => (by cases h)
  | k + 1, c, hc => by
    intro x hx
    simp only [digF] at hx
    split at hx
    · rcases List.mem_cons.1 hx with rfl | hx
      · omega
      · exact digF_ok k (c := c / 58) (by omega) x hx
    · cases hx
theorem digF_len : ∀ (k : Nat) {c : Int}, 0 ≤ c ∧ c ≤ 255 → (digF k c).length ≤ 2
  | 0, _, _ => by simp [digF]
  | 1, _, _ => by simp only [digF]; split <;> simp
  | k + 2, c, hc => by
    simp only [digF]
    split
    · split
      · cases k with
        | zero => simp [digF]
        | succ k =>
          simp only [digF]
          rw [if_neg (by omega)]
          simp
      · simp
    · simp
theorem mulF_ok {o : List Int} {d : Int} (ho : D58 o) (hd : 0 ≤ d ∧ d ≤ 255) : D58 (mulF o d) ∧ (mulF o d).length ≤ o.length + 2 := by
  obtain ⟨h1, h2, h3⟩ := carryF_ok ho hd
  refine ⟨fun x hx => ?_, ?_⟩
  · rcases List.mem_append.1 hx with hx | hx
    · exact h1 x hx
    · exact digF_ok 256 h2.1 x hx
  · have := digF_len 256 h2
    simp only [mulF, List.length_append]; omega
def baseF (ds : List Int) : List Int := ds.foldl mulF []
theorem baseF_ok : ∀ (ds : List Int) {o : List Int}, D58 o → byt ds → D58 (ds.foldl mulF o) ∧ (ds.foldl mulF o).length ≤ o.length + 2 * ds.length
  | [], o, ho, _ => ⟨ho, by simp⟩
  | d :: ds, o, ho, hb => by
    obtain ⟨h1, h2⟩ := mulF_ok ho (hb d (by simp))
    obtain ⟨h3, h4⟩ := baseF_ok ds h1 fun x hx => hb x (List.mem_cons_of_mem _ hx)
    exact ⟨h3, by simp only [List.foldl_cons, List.length_cons]; omega⟩
/-- What the box of the digits holds. -/
structure OutAt (w0 w : World) (p4 p5 p7 : Nat) (o : List Int) : Prop where
  ext : Ext w0 w
  b4 : w.heap[p4]? = some (.cells #[.int .i64 256] 3 (0, 0))
  b5 : w.heap[p5]? = some (.cells #[.int .i64 58] 3 (0, 0))
  l7 : w0.heap.size ≤ p7
  b7 : ∃ v, w.heap[p7]? = some (.cells #[v] 22 (0, 0)) ∧ Own1 w v o ∧ ∀ g, blk v g → w0.heap.size ≤ g
set_option maxHeartbeats 3200000 in
theorem base_ok (w : World) (v : Value) (ids : List Int) (h : Own1 w v ids) (hb : byt ids) (hl : ids.length ≤ 1000) :
    Calls Tryd.prog 43 #[v, .int .i64 256, .int .i64 58] w (Ret fun u w' => New w w' u (baseF ids.reverse)) := by
  refine calls_of_ct 3 t43_ok (Nat.le_of_ble_eq_true rfl) ?_
  simp only [argE_nil, argE_cons, Nat.reduceAdd, Nat.zero_add]
  simp (disch := first | omega | assumption | rfl | (simp only [vcS] <;> omega) | fail) only [t43, ↓vcC, slc3_s, ↓ptV_l, ↓vcA, vcB, ↓vcD, vcE, ↓reduceIte, Nat.reduceEqDiff, Nat.reduceAdd, Nat.reduceMul, Nat.reduceLeDiff, Int.reduceLE, Int.reduceLT, Int.reduceEq, Int.reduceToNat, Int.reduceAdd, Int.reduceSub, Int.reduceMul, Int.reduceNeg, reduceCtorEq, Option.bind_some, Option.map_some, List.length_cons, List.length_nil, vcM, List.getElem?_toArray, List.getElem?_cons_zero, List.getElem?_cons_succ]
  have hq4 : ((w.alloc (.cells #[.int .i64 256] 3)).alloc (.cells #[.int .i64 58] 3)).heap[w.heap.size]? = some (.cells #[.int .i64 256] 3 (0, 0)) := by
    rw [heap_old _ _ _ (by rw [size_alloc]; omega)]; exact heap_new _ _ _ rfl
  have hq5 : ((w.alloc (.cells #[.int .i64 256] 3)).alloc (.cells #[.int .i64 58] 3)).heap[w.heap.size + 1]? = some (.cells #[.int .i64 58] 3 (0, 0)) := heap_new _ _ _ (by rw [size_alloc])
  have hE1 : Ext w ((w.alloc (.cells #[.int .i64 256] 3)).alloc (.cells #[.int .i64 58] 3)) := by (repeat' first | exact Keep.refl _ _ | assumption | refine Keep.drew ?_ | refine Keep.alloc ?_ _ | refine Keep.putN ?_ _ ?_ | refine Keep.setCell ?_ _ ?_ | refine Keep.setO ?_ _ ?_ | exact fun _ => Or.inl rfl | exact fun _ => Or.inr rfl | exact fun _ => rfl | (intro hh; exfalso; ((try simp only [vcS] at hh) <;> omega)))
  generalize hp4e : w.heap.size = p4 at hq4 hq5 ⊢
  generalize hp5e : p4 + 1 = p5 at hq5 ⊢
  generalize World.alloc (World.alloc _ _) _ = w1 at hq4 hq5 hE1 ⊢
  (refine nx_at ?_; simp (disch := first | omega | assumption | rfl | (simp only [vcS] <;> omega) | fail) only [↓vcC, slc3_s, ↓ptV_l, ↓vcA, vcB, ↓vcD, vcE, ↓reduceIte, Nat.reduceEqDiff, Nat.reduceAdd, Nat.reduceMul, Nat.reduceLeDiff, Int.reduceLE, Int.reduceLT, Int.reduceEq, Int.reduceToNat, Int.reduceAdd, Int.reduceSub, Int.reduceMul, Int.reduceNeg, reduceCtorEq, Option.bind_some, Option.map_some, List.length_cons, List.length_nil, vcM, List.getElem?_toArray, List.getElem?_cons_zero, List.getElem?_cons_succ])
  have hz : zc [(1, Value.slice none 0 0)] = #[.slice none 0 0] := rfl
  rw [hz]
  have hO : OutAt w (w1.alloc (.cells #[.slice none 0 0] 22)) p4 p5 w1.heap.size [] := by
    have hE2 : Ext w1 (w1.alloc (.cells #[.slice none 0 0] 22)) := (Keep.refl _ w1).alloc _
    exact ⟨hE1.ext hE2, hE2.at hq4 fun h => h, hE2.at hq5 fun h => h, hE1.size, _, heap_new _ _ _ rfl, Own1.nil _, fun g hg => (by cases hg)⟩
  have hp7l : w1.heap.size < (w1.alloc (.cells #[.slice none 0 0] 22)).heap.size := by rw [size_alloc]; omega
  generalize w1.heap.size = p7 at hO hp7l ⊢
  generalize World.alloc _ _ = w2 at hO hp7l ⊢
  clear hz hq4 hq5 hE1
  (refine nx_at ?_; simp (disch := first | omega | assumption | rfl | (simp only [vcS] <;> omega) | fail) only [↓vcC, slc3_s, ↓ptV_l, ↓vcA, vcB, ↓vcD, vcE, ↓reduceIte, Nat.reduceEqDiff, Nat.reduceAdd, Nat.reduceMul, Nat.reduceLeDiff, Int.reduceLE, Int.reduceLT, Int.reduceEq, Int.reduceToNat, Int.reduceAdd, Int.reduceSub, Int.reduceMul, Int.reduceNeg, reduceCtorEq, Option.bind_some, Option.map_some, List.length_cons, List.length_nil, vcM, List.getElem?_toArray, List.getElem?_cons_zero, List.getElem?_cons_succ])
  obtain ⟨qv, hqv⟩ : ∃ qq qn qc, v = .slice qq qn qc := by
    rcases h.2 with ⟨rfl, _⟩ | ⟨g, cap, cur, rfl, _⟩
    · exact ⟨_, _, _, rfl⟩
    · exact ⟨_, _, _, rfl⟩
  obtain ⟨qn, qc, hqe⟩ := hqv
  have hcell : v.cells = #[v] := by rw [hqe]; rfl
  refine callV_ret (back_ok w2 v hcell) ?_
  rintro _ w3 ⟨b1, T1, rfl, hm1, hE3, hl1, hl3, hT1⟩
  first | (simp (disch := first | omega | assumption | rfl | (simp only [vcS] <;> omega) | fail) only [↓vcC, slc3_s, ↓ptV_l, ↓vcA, vcB, ↓vcD, vcE, ↓reduceIte, Nat.reduceEqDiff, Nat.reduceAdd, Nat.reduceMul, Nat.reduceLeDiff, Int.reduceLE, Int.reduceLT, Int.reduceEq, Int.reduceToNat, Int.reduceAdd, Int.reduceSub, Int.reduceMul, Int.reduceNeg, reduceCtorEq, Option.bind_some, Option.map_some, List.length_cons, List.length_nil, vcM, List.getElem?_toArray, List.getElem?_cons_zero, List.getElem?_cons_succ]) | skip
  (refine nx_at ?_; simp (disch := first | omega | assumption | rfl | (simp only [vcS] <;> omega) | fail) only [↓vcC, slc3_s, ↓ptV_l, ↓vcA, vcB, ↓vcD, vcE, ↓reduceIte, Nat.reduceEqDiff, Nat.reduceAdd, Nat.reduceMul, Nat.reduceLeDiff, Int.reduceLE, Int.reduceLT, Int.reduceEq, Int.reduceToNat, Int.reduceAdd, Int.reduceSub, Int.reduceMul, Int.reduceNeg, reduceCtorEq, Option.bind_some, Option.map_some, List.length_cons, List.length_nil, vcM, List.getElem?_toArray, List.getElem?_cons_zero, List.getElem?_cons_succ])
  have hO3 : OutAt w w3 p4 p5 p7 [] := by
    obtain ⟨o1, o2, o3, o4, v7, o5, o6, o7⟩ := hO
    exact ⟨o1.ext hE3, hE3.at o2 fun h => h, hE3.at o3 fun h => h, o4, v7, hE3.at o5 fun h => h, o6.ext hE3, o7⟩
  have hst := back_stops w3 b1 v ids T1 hm1 (h.ext hO3.ext) (by omega)
  have hbs : ∀ b ∈ b1 :: v.ownBlock.toList, b < w3.heap.size := by
    intro b hb
    rcases List.mem_cons.1 hb with rfl | hb
    · exact hl1
    · have hbq : blk v b := by
        unfold Go.Proofs.blk
        cases ho : v.ownBlock with
        | none => rw [ho] at hb; cases hb
        | some g => rw [ho] at hb; simp at hb; rw [hb]
      exact Nat.lt_of_lt_of_le (h.lt hbq) hO3.ext.size
  have hvals : ∀ (pre : List (Fin ids.length)), byt (pre.map fun t => ids[t.val]) := fun pre x hx => by
    obtain ⟨t, _, rfl⟩ := List.mem_map.1 hx
    exact hb _ (List.getElem_mem _)
  refine rg_of (b1 :: v.ownBlock.toList) (by decide) _ _ _ _ _ _
    (fun (pre : List (Fin ids.length)) W => OutAt w W p4 p5 p7 (baseF (pre.map fun t => ids[t.val])) ∧ W.heap[b1]? = some (.cells #[v] T1 (0, 0)) ∧ w3.heap.size ≤ W.heap.size)
    (fun _ _ _ => False)
    (fun t e1 W => Vc.look e1 4 = some (.pointer (some ⟨p4, 0, none⟩)) ∧ Vc.look e1 5 = some (.pointer (some ⟨p5, 0, none⟩)) ∧ Vc.look e1 7 = some (.pointer (some ⟨p7, 0, none⟩)) ∧ Vc.look e1 9 = some (.int .u8 ids[t.val]))
    rfl rfl hbs hst (fun _ => rfl) ?_ ?_ ⟨hO3, hm1, Nat.le_refl _⟩ ?_ ?_ ?_ ?_ ?_
  · rintro pre W W' row ⟨⟨o1, o2, o3, o4, v7, o5, o6, o7⟩, m1, gs⟩ hg hr
    refine ⟨⟨o1.trans (keep_grow hg hr) fun i hi hk => by have := hk.1; have := hO3.ext.size; omega, at_own hg hr o2, at_own hg hr o3, o4, v7, at_own hg hr o5, ?_, o7⟩, at_own hg hr m1, Nat.le_trans gs hg.size⟩
    refine o6.keep (keep_grow hg hr) fun g hgb hk => ?_
    obtain ⟨_, o, ho, hc⟩ := hk
    obtain ⟨cur, hcur⟩ := row_type o6 hgb
    rw [hcur] at ho; cases ho; cases hc
  · rintro key pre W W' row hF hg hr; exact hF
  · rintro t e1 _ W W' row hA hg hr; exact hA
  · rintro l pre t W hI
    show ctV _ _ _ _ _ _ _ _ ((16, .int .u8 _) :: (15, .int .i64 _) :: _) _
    simp (disch := first | omega | assumption | rfl | (simp only [vcS] <;> omega) | fail) only [↓vcC, slc3_s, ↓ptV_l, ↓vcA, vcB, ↓vcD, vcE, ↓reduceIte, Nat.reduceEqDiff, Nat.reduceAdd, Nat.reduceMul, Nat.reduceLeDiff, Int.reduceLE, Int.reduceLT, Int.reduceEq, Int.reduceToNat, Int.reduceAdd, Int.reduceSub, Int.reduceMul, Int.reduceNeg, reduceCtorEq, Option.bind_some, Option.map_some, List.length_cons, List.length_nil, vcM, List.getElem?_toArray, List.getElem?_cons_zero, List.getElem?_cons_succ]
    exact ⟨KeepsFrom.refl _ _, fun _ _ => rfl, hI⟩
  · rintro l pre t e1 W hl hr ⟨⟨o1, o2, o3, o4, v7, o5, o6, o7⟩, m1, gs⟩ ⟨l4, l5, l7, l9⟩ hlt
    have hd := hb ids[t.val] (List.getElem_mem _)
    have hB0 := baseF_ok (pre.map fun (t : Fin ids.length) => ids[t.val]) (o := []) (fun x hx => (by cases hx)) (hvals pre)
    obtain ⟨hD0, hL0⟩ := hB0
    have hLen : (baseF (pre.map fun t => ids[t.val])).length ≤ 4000 := by
      have : (baseF (pre.map fun t => ids[t.val])).length ≤ [].length + 2 * (pre.map fun t => ids[t.val]).length := hL0
      simp at this
      omega
    have hD0 : D58 (baseF (pre.map fun t => ids[t.val])) := hD0
    have hnext : baseF ((pre ++ [t]).map fun t => ids[t.val]) = mulF (baseF (pre.map fun t => ids[t.val])) ids[t.val] := by simp [baseF]
    rw [hnext]
    clear hnext hL0
    generalize baseF (pre.map fun t => ids[t.val]) = o0 at *
    generalize ids[t.val] = d at *
    have hwd : IntKind.i64.wrap d = d := wrap_i64 (by omega) (by omega)
    have hlen7 := o6.rd.len
    have one7 : v7.oneCell' = true := o6.rd.one
    have n4 : ¬ WS p7 v7 p4 := by
      rintro (e | e)
      · subst e; rw [o2] at o5; cases o5
      · obtain ⟨cur, hc⟩ := row_type o6 e; rw [o2] at hc; cases hc
    have n5 : ¬ WS p7 v7 p5 := by
      rintro (e | e)
      · subst e; rw [o3] at o5; cases o5
      · obtain ⟨cur, hc⟩ := row_type o6 e; rw [o3] at hc; cases hc
    have n1 : ¬ WS p7 v7 b1 := by
      rintro (e | e)
      · omega
      · obtain ⟨cur, hc⟩ := row_type o6 e; rw [m1] at hc; rw [hT1] at hc; cases hc
    have n7 : ¬ blk v7 p7 := fun e => by obtain ⟨cur, hc⟩ := row_type o6 e; rw [o5] at hc; cases hc
    have nv : ∀ g, blk v g → ¬ WS p7 v7 g := fun g hg => by
      have := h.lt hg
      rintro (e | e)
      · omega
      · have := o7 g e; omega
    have hcells : ∀ k, WS p7 v7 k → ∀ o, W.heap[k]? = some o → o.isCells = true := by
      rintro k (e | e) o ho
      · subst e; rw [o5] at ho; cases ho; rfl
      · obtain ⟨cur, hc⟩ := row_type o6 e; rw [hc] at ho; cases ho; rfl
    have fin : ∀ (W' : World) (v' : Value) (o' : List Int), Keep (WS p7 v7) W W' → W'.heap[p7]? = some (.cells #[v'] 22 (0, 0)) → Own1 W' v' o' → (∀ g, blk v' g → blk v7 g ∨ W.heap.size ≤ g) →
        KeepsFrom w3.heap.size W W' ∧ KpB (b1 :: v.ownBlock.toList) W W' ∧ (OutAt w W' p4 p5 p7 o' ∧ W'.heap[b1]? = some (.cells #[v] T1 (0, 0)) ∧ w3.heap.size ≤ W'.heap.size) := by
      intro W' v' o' k1 k2 k3 k4
      refine ⟨keepsFrom_of k1 hcells, fun b hbm => ?_, ⟨o1.trans k1 fun i hi e => ?_, k1.at o2 n4, k1.at o3 n5, o4, v', k2, k3, fun g hg => ?_⟩, k1.at m1 n1, Nat.le_trans gs k1.size⟩
      · refine k1.block b (Nat.lt_of_lt_of_le (hbs b hbm) gs) ?_
        rcases List.mem_cons.1 hbm with rfl | hbm
        · exact n1
        · refine nv b ?_
          unfold Go.Proofs.blk
          cases ho : v.ownBlock with
          | none => rw [ho] at hbm; cases hbm
          | some g => rw [ho] at hbm; simp at hbm; rw [hbm]
      · rcases e with e | e
        · omega
        · have := o7 i e; omega
      · rcases k4 g hg with e | e
        · exact o7 g e
        · exact Nat.le_trans o1.size e
    simp (disch := first | omega | assumption | rfl | (simp only [vcS] <;> omega) | fail) only [↓vcC, slc3_s, ↓ptV_l, ↓vcA, vcB, ↓vcD, vcE, ↓reduceIte, Nat.reduceEqDiff, Nat.reduceAdd, Nat.reduceMul, Nat.reduceLeDiff, Int.reduceLE, Int.reduceLT, Int.reduceEq, Int.reduceToNat, Int.reduceAdd, Int.reduceSub, Int.reduceMul, Int.reduceNeg, reduceCtorEq, Option.bind_some, Option.map_some, List.length_cons, List.length_nil, vcM, List.getElem?_toArray, List.getElem?_cons_zero, List.getElem?_cons_succ, l9, hwd]
    (refine nx_at ?_; simp (disch := first | omega | assumption | rfl | (simp only [vcS] <;> omega) | fail) only [↓vcC, slc3_s, ↓ptV_l, ↓vcA, vcB, ↓vcD, vcE, ↓reduceIte, Nat.reduceEqDiff, Nat.reduceAdd, Nat.reduceMul, Nat.reduceLeDiff, Int.reduceLE, Int.reduceLT, Int.reduceEq, Int.reduceToNat, Int.reduceAdd, Int.reduceSub, Int.reduceMul, Int.reduceNeg, reduceCtorEq, Option.bind_some, Option.map_some, List.length_cons, List.length_nil, vcM, List.getElem?_toArray, List.getElem?_cons_zero, List.getElem?_cons_succ, l7, o5, hlen7])
    (refine nx_at ?_; simp (disch := first | omega | assumption | rfl | (simp only [vcS] <;> omega) | fail) only [↓vcC, slc3_s, ↓ptV_l, ↓vcA, vcB, ↓vcD, vcE, ↓reduceIte, Nat.reduceEqDiff, Nat.reduceAdd, Nat.reduceMul, Nat.reduceLeDiff, Int.reduceLE, Int.reduceLT, Int.reduceEq, Int.reduceToNat, Int.reduceAdd, Int.reduceSub, Int.reduceMul, Int.reduceNeg, reduceCtorEq, Option.bind_some, Option.map_some, List.length_cons, List.length_nil, vcM, List.getElem?_toArray, List.getElem?_cons_zero, List.getElem?_cons_succ])
    refine lp_of (fun j ds e W' => ds = [] ∧ ∃ done rest c, done.length + j = o0.length ∧ rest.length = j ∧ Vc.look e 21 = some (.int .i64 (done.length : Nat)) ∧ Vc.look e 20 = some (.int .i64 (o0.length : Nat)) ∧ Vc.look e 19 = some v7 ∧ Vc.look e 10 = some (.int .i64 c) ∧
      Vc.look e 4 = some (.pointer (some ⟨p4, 0, none⟩)) ∧ Vc.look e 5 = some (.pointer (some ⟨p5, 0, none⟩)) ∧ Vc.look e 7 = some (.pointer (some ⟨p7, 0, none⟩)) ∧ (0 ≤ c ∧ c ≤ 255) ∧ D58 rest ∧ carryF o0 d = (done ++ (carryF rest c).1, (carryF rest c).2) ∧
      Keep (WS p7 v7) W W' ∧ W'.heap[p7]? = some (.cells #[v7] 22 (0, 0)) ∧ Own1 W' v7 (done ++ rest)) o0.length ?_ ?_
    · exact ⟨rfl, [], o0, d, by simp, rfl, rfl, rfl, rfl, rfl, l4, l5, l7, hd, hD0, by simp, Keep.refl _ W, o5, o6⟩
    rintro j ds e W1 ⟨rfl, done, rest, c, hj, hrl, l21, l20, l19, l10, l4, l5, l7, hc, hrd, hcar, k1, k2, k3⟩
    by_cases hjl : done.length < o0.length
    · have hjl' : ((done.length : Nat) : Int) < ((o0.length : Nat) : Int) := by omega
      obtain ⟨x, rest2, rfl⟩ : ∃ x r, rest = x :: r := by
        cases rest with
        | nil => simp at hrl; omega
        | cons x r => exact ⟨x, r, rfl⟩
      have hx := hrd x (by simp)
      have hel : (done ++ x :: rest2).length = o0.length := by simp at hrl ⊢; omega
      obtain ⟨b, o, cap, hv7, hcl⟩ := k3.rd.at (i := done.length) (by simp)
      rw [hel] at hv7
      have hx0 : (done ++ x :: rest2)[done.length]'(by simp) = x := by simp
      rw [hx0] at hcl
      have h20 : 0 ≤ ((done.length : Nat) : Int) ∧ ((done.length : Nat) : Int) < ((o0.length : Nat) : Int) := by omega
      have w1' : IntKind.i64.wrap x = x := wrap_i64 (by omega) (by omega)
      have w2' : IntKind.i64.wrap (x * 256) = x * 256 := wrap_i64 (by omega) (by omega)
      have w3' : IntKind.i64.wrap (c + x * 256) = c + x * 256 := wrap_i64 (by omega) (by omega)
      have w4' : Int.tmod (c + x * 256) 58 = (c + x * 256) % 58 := Int.tmod_eq_emod_of_nonneg (by omega)
      have w5' : IntKind.u8.wrap ((c + x * 256) % 58) = (c + x * 256) % 58 := by rw [wrap_u8]; omega
      have w6' : IntKind.i64.wrap (Int.tdiv (c + x * 256) 58) = (c + x * 256) / 58 := by rw [Int.tdiv_eq_ediv_of_nonneg (by omega)]; exact wrap_i64 (by omega) (by omega)
      have w7' : IntKind.i64.wrap ((done.length : Nat) + 1) = ((done.length + 1 : Nat) : Int) := wrap_i64 (by omega) (by omega)
      have k4 := k1.at o2 n4
      have k5 := k1.at o3 n5
      subst hv7
      have ho0 : o = 0 := by
        rcases k3.2 with ⟨e1, _⟩ | ⟨g', cap', cur', e1, _⟩
        · cases e1
        · injection e1 with e2 _ _
          injection e2 with e3
          injection e3
      subst ho0
      rw [Nat.zero_add] at hcl
      simp (disch := first | omega | assumption | rfl | (simp only [vcS] <;> omega) | fail) only [↓vcC, slc3_s, ↓ptV_l, ↓vcA, vcB, ↓vcD, vcE, ↓reduceIte, Nat.reduceEqDiff, Nat.reduceAdd, Nat.reduceMul, Nat.reduceLeDiff, Int.reduceLE, Int.reduceLT, Int.reduceEq, Int.reduceToNat, Int.reduceAdd, Int.reduceSub, Int.reduceMul, Int.reduceNeg, reduceCtorEq, Option.bind_some, Option.map_some, List.length_cons, List.length_nil, vcM, List.getElem?_toArray, List.getElem?_cons_zero, List.getElem?_cons_succ, l21, l20, hjl']
      (refine nx_at ?_; simp (disch := first | omega | assumption | rfl | (simp only [vcS] <;> omega) | fail) only [↓vcC, slc3_s, ↓ptV_l, ↓vcA, vcB, ↓vcD, vcE, ↓reduceIte, Nat.reduceEqDiff, Nat.reduceAdd, Nat.reduceMul, Nat.reduceLeDiff, Int.reduceLE, Int.reduceLT, Int.reduceEq, Int.reduceToNat, Int.reduceAdd, Int.reduceSub, Int.reduceMul, Int.reduceNeg, reduceCtorEq, Option.bind_some, Option.map_some, List.length_cons, List.length_nil, vcM, List.getElem?_toArray, List.getElem?_cons_zero, List.getElem?_cons_succ])
      (refine nx_at ?_; simp (disch := first | omega | assumption | rfl | (simp only [vcS] <;> omega) | fail) only [↓vcC, slc3_s, ↓ptV_l, ↓vcA, vcB, ↓vcD, vcE, ↓reduceIte, Nat.reduceEqDiff, Nat.reduceAdd, Nat.reduceMul, Nat.reduceLeDiff, Int.reduceLE, Int.reduceLT, Int.reduceEq, Int.reduceToNat, Int.reduceAdd, Int.reduceSub, Int.reduceMul, Int.reduceNeg, reduceCtorEq, Option.bind_some, Option.map_some, List.length_cons, List.length_nil, vcM, List.getElem?_toArray, List.getElem?_cons_zero, List.getElem?_cons_succ, l21, l19, h20, Int.toNat_natCast, Nat.mul_one, hcl])
      (refine nx_at ?_; simp (disch := first | omega | assumption | rfl | (simp only [vcS] <;> omega) | fail) only [↓vcC, slc3_s, ↓ptV_l, ↓vcA, vcB, ↓vcD, vcE, ↓reduceIte, Nat.reduceEqDiff, Nat.reduceAdd, Nat.reduceMul, Nat.reduceLeDiff, Int.reduceLE, Int.reduceLT, Int.reduceEq, Int.reduceToNat, Int.reduceAdd, Int.reduceSub, Int.reduceMul, Int.reduceNeg, reduceCtorEq, Option.bind_some, Option.map_some, List.length_cons, List.length_nil, vcM, List.getElem?_toArray, List.getElem?_cons_zero, List.getElem?_cons_succ, l10, l4, k4, w1', w2', w3'])
      (refine nx_at ?_; simp (disch := first | omega | assumption | rfl | (simp only [vcS] <;> omega) | fail) only [↓vcC, slc3_s, ↓ptV_l, ↓vcA, vcB, ↓vcD, vcE, ↓reduceIte, Nat.reduceEqDiff, Nat.reduceAdd, Nat.reduceMul, Nat.reduceLeDiff, Int.reduceLE, Int.reduceLT, Int.reduceEq, Int.reduceToNat, Int.reduceAdd, Int.reduceSub, Int.reduceMul, Int.reduceNeg, reduceCtorEq, Option.bind_some, Option.map_some, List.length_cons, List.length_nil, vcM, List.getElem?_toArray, List.getElem?_cons_zero, List.getElem?_cons_succ, l7, l5, k2, k5, w4', w5', h20, Int.toNat_natCast, Nat.mul_one])
      obtain ⟨r1, o1'⟩ := (k3.ext ((Keep.refl _ W1).drew)).set1 (i := done.length) (by simp) ((c + x * 256) % 58)
      have k7 : Keep (WS p7 (.slice (some ⟨b, 0, none⟩) o0.length cap)) W1 (W1.drew.setCell ⟨b, done.length, none⟩ (.int .u8 ((c + x * 256) % 58))) := ((Keep.refl _ W1).drew).setCell _ fun _ => .inr rfl
      have k8 : (W1.drew.setCell ⟨b, done.length, none⟩ (.int .u8 ((c + x * 256) % 58))).heap[p7]? = some (.cells #[.slice (some ⟨b, 0, none⟩) o0.length cap] 22 (0, 0)) := by
        exact (show Keep (fun i => i = b) W1 (W1.drew.setCell ⟨b, done.length, none⟩ (.int .u8 ((c + x * 256) % 58))) from ((Keep.refl _ W1).drew).setCell _ fun _ => rfl).at k2 (fun e => n7 (by rw [e]; rfl))
      first | (refine ⟨r1, ?_⟩) | skip
      rw [set_mid] at o1'
      have k9 := k1.trans k7 fun i _ h => h
      have k5' := k9.at o3 n5
      generalize World.setCell _ _ _ = W2 at o1' k7 k8 k9 k5' ⊢
      (refine nx_at ?_; simp (disch := first | omega | assumption | rfl | (simp only [vcS] <;> omega) | fail) only [↓vcC, slc3_s, ↓ptV_l, ↓vcA, vcB, ↓vcD, vcE, ↓reduceIte, Nat.reduceEqDiff, Nat.reduceAdd, Nat.reduceMul, Nat.reduceLeDiff, Int.reduceLE, Int.reduceLT, Int.reduceEq, Int.reduceToNat, Int.reduceAdd, Int.reduceSub, Int.reduceMul, Int.reduceNeg, reduceCtorEq, Option.bind_some, Option.map_some, List.length_cons, List.length_nil, vcM, List.getElem?_toArray, List.getElem?_cons_zero, List.getElem?_cons_succ, l10, l5, k5', w6'])
      (refine nx_at ?_; simp (disch := first | omega | assumption | rfl | (simp only [vcS] <;> omega) | fail) only [↓vcC, slc3_s, ↓ptV_l, ↓vcA, vcB, ↓vcD, vcE, ↓reduceIte, Nat.reduceEqDiff, Nat.reduceAdd, Nat.reduceMul, Nat.reduceLeDiff, Int.reduceLE, Int.reduceLT, Int.reduceEq, Int.reduceToNat, Int.reduceAdd, Int.reduceSub, Int.reduceMul, Int.reduceNeg, reduceCtorEq, Option.bind_some, Option.map_some, List.length_cons, List.length_nil, vcM, List.getElem?_toArray, List.getElem?_cons_zero, List.getElem?_cons_succ, l21, w7'])
      rw [carryF] at hcar
      refine ⟨j - 1, by omega, done ++ [(c + x * 256) % 58], rest2, (c + x * 256) / 58, by simp; omega, by simp at hrl; omega, by simp, l20, l19, rfl, l4, l5, l7, by omega, fun y hy => hrd y (List.mem_cons_of_mem _ hy), by rw [hcar]; simp, k9, k8, by simpa using o1'⟩
    · have hr0 : rest = [] := List.eq_nil_of_length_eq_zero (by omega)
      subst hr0
      have hjl' : ¬ ((done.length : Nat) : Int) < ((o0.length : Nat) : Int) := by omega
      rw [List.append_nil] at k3
      have hm : done ++ digF 256 c = mulF o0 d := by rw [mulF, hcar]; simp [carryF]
      simp (disch := first | omega | assumption | rfl | (simp only [vcS] <;> omega) | fail) only [↓vcC, slc3_s, ↓ptV_l, ↓vcA, vcB, ↓vcD, vcE, ↓reduceIte, Nat.reduceEqDiff, Nat.reduceAdd, Nat.reduceMul, Nat.reduceLeDiff, Int.reduceLE, Int.reduceLT, Int.reduceEq, Int.reduceToNat, Int.reduceAdd, Int.reduceSub, Int.reduceMul, Int.reduceNeg, reduceCtorEq, Option.bind_some, Option.map_some, List.length_cons, List.length_nil, vcM, List.getElem?_toArray, List.getElem?_cons_zero, List.getElem?_cons_succ, l21, l20, hjl']
      (refine nx_at ?_; simp (disch := first | omega | assumption | rfl | (simp only [vcS] <;> omega) | fail) only [↓vcC, slc3_s, ↓ptV_l, ↓vcA, vcB, ↓vcD, vcE, ↓reduceIte, Nat.reduceEqDiff, Nat.reduceAdd, Nat.reduceMul, Nat.reduceLeDiff, Int.reduceLE, Int.reduceLT, Int.reduceEq, Int.reduceToNat, Int.reduceAdd, Int.reduceSub, Int.reduceMul, Int.reduceNeg, reduceCtorEq, Option.bind_some, Option.map_some, List.length_cons, List.length_nil, vcM, List.getElem?_toArray, List.getElem?_cons_zero, List.getElem?_cons_succ])
      refine lp_of (K := fun _ _ _ => False) (fun j ds e W' => ds = [] ∧ ∃ acc c v', c.toNat ≤ j ∧ acc ++ digF j c = mulF o0 d ∧ (0 ≤ c ∧ c ≤ 255) ∧ acc.length ≤ 10000 + (256 - j) ∧ j ≤ 256 ∧ Vc.look e 10 = some (.int .i64 c) ∧
        Vc.look e 4 = some (.pointer (some ⟨p4, 0, none⟩)) ∧ Vc.look e 5 = some (.pointer (some ⟨p5, 0, none⟩)) ∧ Vc.look e 7 = some (.pointer (some ⟨p7, 0, none⟩)) ∧
        Keep (WS p7 v7) W W' ∧ W'.heap[p7]? = some (.cells #[v'] 22 (0, 0)) ∧ Own1 W' v' acc ∧ ∀ g, blk v' g → blk v7 g ∨ W.heap.size ≤ g) 256 ?_ ?_
      · exact ⟨rfl, done, c, v7, by omega, hm, hc, by omega, Nat.le_refl _, l10, l4, l5, l7, k1, k2, k3, fun g hg => .inl hg⟩
      rintro j2 ds e W2 ⟨rfl, acc, c2, v', hcj, hacc, hc2, hal, hj256, l10, l4, l5, l7, q1, q2, q3, q4⟩
      by_cases hpos : 0 < c2
      · obtain ⟨j3, rfl⟩ : ∃ j3, j2 = j3 + 1 := ⟨j2 - 1, by omega⟩
        rw [digF, if_pos hpos] at hacc
        have u1 : Int.tmod c2 58 = c2 % 58 := Int.tmod_eq_emod_of_nonneg (by omega)
        have u2 : IntKind.u8.wrap (c2 % 58) = c2 % 58 := by rw [wrap_u8]; omega
        have u3 : IntKind.i64.wrap (Int.tdiv c2 58) = c2 / 58 := by rw [Int.tdiv_eq_ediv_of_nonneg (by omega)]; exact wrap_i64 (by omega) (by omega)
        have q5 := q1.at o3 n5
        simp (disch := first | omega | assumption | rfl | (simp only [vcS] <;> omega) | fail) only [↓vcC, slc3_s, ↓ptV_l, ↓vcA, vcB, ↓vcD, vcE, ↓reduceIte, Nat.reduceEqDiff, Nat.reduceAdd, Nat.reduceMul, Nat.reduceLeDiff, Int.reduceLE, Int.reduceLT, Int.reduceEq, Int.reduceToNat, Int.reduceAdd, Int.reduceSub, Int.reduceMul, Int.reduceNeg, reduceCtorEq, Option.bind_some, Option.map_some, List.length_cons, List.length_nil, vcM, List.getElem?_toArray, List.getElem?_cons_zero, List.getElem?_cons_succ, l10, hpos]
        (refine nx_at ?_; simp (disch := first | omega | assumption | rfl | (simp only [vcS] <;> omega) | fail) only [↓vcC, slc3_s, ↓ptV_l, ↓vcA, vcB, ↓vcD, vcE, ↓reduceIte, Nat.reduceEqDiff, Nat.reduceAdd, Nat.reduceMul, Nat.reduceLeDiff, Int.reduceLE, Int.reduceLT, Int.reduceEq, Int.reduceToNat, Int.reduceAdd, Int.reduceSub, Int.reduceMul, Int.reduceNeg, reduceCtorEq, Option.bind_some, Option.map_some, List.length_cons, List.length_nil, vcM, List.getElem?_toArray, List.getElem?_cons_zero, List.getElem?_cons_succ])
        (refine nx_at ?_; simp (disch := first | omega | assumption | rfl | (simp only [vcS] <;> omega) | fail) only [↓vcC, slc3_s, ↓ptV_l, ↓vcA, vcB, ↓vcD, vcE, ↓reduceIte, Nat.reduceEqDiff, Nat.reduceAdd, Nat.reduceMul, Nat.reduceLeDiff, Int.reduceLE, Int.reduceLT, Int.reduceEq, Int.reduceToNat, Int.reduceAdd, Int.reduceSub, Int.reduceMul, Int.reduceNeg, reduceCtorEq, Option.bind_some, Option.map_some, List.length_cons, List.length_nil, vcM, List.getElem?_toArray, List.getElem?_cons_zero, List.getElem?_cons_succ, l7, l10, l5, q2, q5, u1, u2])
        refine ⟨?_, ?_⟩
        · rw [heap_old _ _ _ (Nat.ne_of_lt (lt_of_heap (show W2.drew.heap[p7]? = _ from q2)))]
          rw [show W2.drew.heap[p7]? = _ from q2]; rfl
        refine appL (news := [c2 % 58]) (q3.ext ((Keep.refl _ W2).drew)) (by simp; omega) fun v2 W3 r1 r2 r3 => ?_
        have r4 : W3.heap[p7]? = some (.cells #[v'] 22 (0, 0)) := r2.at (show W2.drew.heap[p7]? = _ from q2) (fun e => by obtain ⟨cur, hc⟩ := row_type q3 e; rw [q2] at hc; cases hc)
        have nb : ∀ g, blk v2 g → g ≠ p7 := fun g hg e => by
          rcases r3 g hg with e2 | e2
          · subst e; obtain ⟨cur, hc⟩ := row_type q3 e2; rw [q2] at hc; cases hc
          · have := lt_of_heap (show W2.drew.heap[p7]? = _ from q2); omega
        refine ⟨one_row r1, wr1_of r4 (by simp), ?_⟩
        have r5 : (W3.setCell ⟨p7, 0, none⟩ v2).heap[p7]? = some (.cells #[v2] 22 (0, 0)) := by rw [heap_setCell_eq r4]; rfl
        have r6 : Keep (fun i => i = p7) W3 (W3.setCell ⟨p7, 0, none⟩ v2) := (Keep.refl _ W3).setCell _ fun _ => rfl
        have r7 : Keep (WS p7 v7) W W3 := by
          refine (q1.drew).trans r2 fun i hi e => ?_
          rcases q4 i e with e2 | e2
          · exact .inr e2
          · omega
        have r8 := r7.trans r6 fun i _ e => .inl e
        have r9 := r8.at o3 n5
        generalize World.setCell _ _ _ = W4 at r5 r6 r8 r9 ⊢
        (refine nx_at ?_; simp (disch := first | omega | assumption | rfl | (simp only [vcS] <;> omega) | fail) only [↓vcC, slc3_s, ↓ptV_l, ↓vcA, vcB, ↓vcD, vcE, ↓reduceIte, Nat.reduceEqDiff, Nat.reduceAdd, Nat.reduceMul, Nat.reduceLeDiff, Int.reduceLE, Int.reduceLT, Int.reduceEq, Int.reduceToNat, Int.reduceAdd, Int.reduceSub, Int.reduceMul, Int.reduceNeg, reduceCtorEq, Option.bind_some, Option.map_some, List.length_cons, List.length_nil, vcM, List.getElem?_toArray, List.getElem?_cons_zero, List.getElem?_cons_succ, l10, l5, r9, u3])
        refine ⟨j3, rfl, acc ++ [c2 % 58], c2 / 58, v2, by omega, by rw [← hacc]; simp, by omega, by simp; omega, by omega, rfl, l4, l7, r8, r5, r1.keep r6 fun g hg e => nb g hg e, fun g hg => ?_⟩
        rcases r3 g hg with e2 | e2
        · exact q4 g e2
        · exact .inr (Nat.le_trans q1.size e2)
      · have hneg : ¬ 0 < c2 := hpos
        have hz : digF j2 c2 = [] := by cases j2 <;> simp [digF, hneg]
        rw [hz, List.append_nil] at hacc
        simp (disch := first | omega | assumption | rfl | (simp only [vcS] <;> omega) | fail) only [↓vcC, slc3_s, ↓ptV_l, ↓vcA, vcB, ↓vcD, vcE, ↓reduceIte, Nat.reduceEqDiff, Nat.reduceAdd, Nat.reduceMul, Nat.reduceLeDiff, Int.reduceLE, Int.reduceLT, Int.reduceEq, Int.reduceToNat, Int.reduceAdd, Int.reduceSub, Int.reduceMul, Int.reduceNeg, reduceCtorEq, Option.bind_some, Option.map_some, List.length_cons, List.length_nil, vcM, List.getElem?_toArray, List.getElem?_cons_zero, List.getElem?_cons_succ, l10, hneg]
        (refine nx_at ?_; simp (disch := first | omega | assumption | rfl | (simp only [vcS] <;> omega) | fail) only [↓vcC, slc3_s, ↓ptV_l, ↓vcA, vcB, ↓vcD, vcE, ↓reduceIte, Nat.reduceEqDiff, Nat.reduceAdd, Nat.reduceMul, Nat.reduceLeDiff, Int.reduceLE, Int.reduceLT, Int.reduceEq, Int.reduceToNat, Int.reduceAdd, Int.reduceSub, Int.reduceMul, Int.reduceNeg, reduceCtorEq, Option.bind_some, Option.map_some, List.length_cons, List.length_nil, vcM, List.getElem?_toArray, List.getElem?_cons_zero, List.getElem?_cons_succ])
        rw [← hacc]
        exact fin W2 v' acc q1 q2 q3 q4
  · rintro D xs W hDD rfl ⟨⟨o1, o2, o3, o4, v7, o5, o6, o7⟩, m1, gs⟩ hDK
    have hrev : (List.finRange ids.length).reverse.map (fun (t : Fin ids.length) => ids[t.val]) = ids.reverse := by
      rw [List.map_reverse]
      congr 1
      exact List.ext_getElem (by simp) (fun i h1 h2 => by simp)
    rw [hrev] at o6
    (refine nx_at ?_; simp (disch := first | omega | assumption | rfl | (simp only [vcS] <;> omega) | fail) only [↓vcC, slc3_s, ↓ptV_l, ↓vcA, vcB, ↓vcD, vcE, ↓reduceIte, Nat.reduceEqDiff, Nat.reduceAdd, Nat.reduceMul, Nat.reduceLeDiff, Int.reduceLE, Int.reduceLT, Int.reduceEq, Int.reduceToNat, Int.reduceAdd, Int.reduceSub, Int.reduceMul, Int.reduceNeg, reduceCtorEq, Option.bind_some, Option.map_some, List.length_cons, List.length_nil, vcM, List.getElem?_toArray, List.getElem?_cons_zero, List.getElem?_cons_succ, o5])
    (refine nx_at ?_; simp (disch := first | omega | assumption | rfl | (simp only [vcS] <;> omega) | fail) only [↓vcC, slc3_s, ↓ptV_l, ↓vcA, vcB, ↓vcD, vcE, ↓reduceIte, Nat.reduceEqDiff, Nat.reduceAdd, Nat.reduceMul, Nat.reduceLeDiff, Int.reduceLE, Int.reduceLT, Int.reduceEq, Int.reduceToNat, Int.reduceAdd, Int.reduceSub, Int.reduceMul, Int.reduceNeg, reduceCtorEq, Option.bind_some, Option.map_some, List.length_cons, List.length_nil, vcM, List.getElem?_toArray, List.getElem?_cons_zero, List.getElem?_cons_succ])
    refine lvV_cons hDK ?_
    simp (disch := first | omega | assumption | rfl | (simp only [vcS] <;> omega) | fail) only [↓vcC, slc3_s, ↓ptV_l, ↓vcA, vcB, ↓vcD, vcE, ↓reduceIte, Nat.reduceEqDiff, Nat.reduceAdd, Nat.reduceMul, Nat.reduceLeDiff, Int.reduceLE, Int.reduceLT, Int.reduceEq, Int.reduceToNat, Int.reduceAdd, Int.reduceSub, Int.reduceMul, Int.reduceNeg, reduceCtorEq, Option.bind_some, Option.map_some, List.length_cons, List.length_nil, vcM, List.getElem?_toArray, List.getElem?_cons_zero, List.getElem?_cons_succ, Ret_returned]
    have hkD : Keep (fun k => k = D) W (W.putObj D (.deferred none)) := (Keep.refl _ W).grown (grownBy_putObj' W D _) (fun k _ h => by cases h; rfl)
    exact ⟨o6.keep hkD (fun g hg e => by subst e; obtain ⟨cur, hc⟩ := row_type o6 hg; rw [hDK] at hc; cases hc), o1.trans hkD fun k hk e => by have := hO3.ext.size; omega, o7⟩
  · rintro D key pre W hDD hS hF hDK
    exact hF.elim
end Go.Proofs
namespace Go.Proofs
open Go.Vc Go.RowKit
set_option maxRecDepth 10000

theorem spliceA_nil (c : Array Value) (o : Nat) : spliceA c o #[] = c := by
  apply Array.ext'
  simp [spliceA]
/-- 'copy' into a part of a block. -/
theorem cpy_in {w : World} {b o n cap : Nat} {x : Value} {bs : List Int} {cur : Array Value} {t : TypeId} {K : Value → World → Prop} (hb : w.heap[b]? = some (.cells cur t (0, 0))) (ho : o + n ≤ cur.size) (hx : Rd w x bs) (hl : bs.length ≤ n)
    (hk : ∀ w', w'.heap[b]? = some (.cells (spliceA cur o (bv bs).toArray) t (0, 0)) → Keep (fun k => k = b) w w' → K (.int .i64 (bs.length : Nat)) w') : cpyV 1 (.slice (some ⟨b, o, none⟩) n cap) x w K := by
  obtain ⟨⟨q, c, rfl, hc⟩, hm, hr⟩ := hx
  have hmin : Nat.min bs.length n = bs.length := Nat.min_eq_left hl
  unfold cpyV
  simp only [hmin, hr, getV_some, Nat.mul_one]
  refine ⟨bv_flat bs, fun h0 => ?_, fun h0 => ⟨b, o, rfl, okN_of hb (by omega), hk _ (heap_putN_eq hb) ((Keep.refl _ w).putN _ fun _ => rfl)⟩⟩
  have : bs = [] := List.eq_nil_of_length_eq_zero h0
  subst this
  refine hk w ?_ (Keep.refl _ w)
  rw [hb]
  have e : (bv []).toArray = (#[] : Array Value) := rfl
  rw [e, spliceA_nil]
theorem mul64_ok (w : World) : Calls Tryd.prog 65 #[.int .u64 1, .int .u64 2] w (Ret fun u w' => u = .tuple #[.int .u64 0, .int .u64 2] ∧ w' = w) := by
  refine calls_of_cfg c65_ok (Nat.le_of_ble_eq_true rfl) ?_
  simp only [argE_nil, argE_cons, Nat.reduceAdd, Nat.zero_add]
  have a0 : IntKind.u64.wrap (((BitVec.ofInt IntKind.u64.bits 0 &&& BitVec.ofInt IntKind.u64.bits 4294967295).toNat : Nat) : Int) = 0 := by decide +kernel
  have a1 : IntKind.u64.wrap (((BitVec.ofInt IntKind.u64.bits 1 &&& BitVec.ofInt IntKind.u64.bits 4294967295).toNat : Nat) : Int) = 1 := by decide +kernel
  have a2 : IntKind.u64.wrap (((BitVec.ofInt IntKind.u64.bits 2 &&& BitVec.ofInt IntKind.u64.bits 4294967295).toNat : Nat) : Int) = 2 := by decide +kernel
  have s0 : (0 : Int).fdiv (2 ^ Nat.min 32 IntKind.u64.bits) = 0 := by decide +kernel
  have s1 : (1 : Int).fdiv (2 ^ Nat.min 32 IntKind.u64.bits) = 0 := by decide +kernel
  have s2 : (2 : Int).fdiv (2 ^ Nat.min 32 IntKind.u64.bits) = 0 := by decide +kernel
  have w0 : IntKind.u64.wrap 0 = 0 := by decide
  have w2 : IntKind.u64.wrap 2 = 2 := by decide
  (refine W_at c65_ok ?_; refine ⟨_, rfl, ?_⟩; simp (disch := first | omega | assumption | rfl | (simp only [vcS] <;> omega) | fail) only [↓ptV_l, ↓vcA, vcB, ↓vcD, vcE, ↓reduceIte, Nat.reduceEqDiff, Nat.reduceAdd, Nat.reduceMul, Nat.reduceLeDiff, Int.reduceLE, Int.reduceLT, Int.reduceEq, Int.reduceToNat, Int.reduceAdd, Int.reduceSub, Int.reduceMul, Int.reduceNeg, reduceCtorEq, Option.bind_some, Option.map_some, List.length_cons, List.length_nil, vcM, List.getElem?_toArray, List.getElem?_cons_zero, List.getElem?_cons_succ, a0, a1, a2, s0, s1, s2, w0, w2])
  (refine W_at c65_ok ?_; refine ⟨_, rfl, ?_⟩; simp (disch := first | omega | assumption | rfl | (simp only [vcS] <;> omega) | fail) only [↓ptV_l, ↓vcA, vcB, ↓vcD, vcE, ↓reduceIte, Nat.reduceEqDiff, Nat.reduceAdd, Nat.reduceMul, Nat.reduceLeDiff, Int.reduceLE, Int.reduceLT, Int.reduceEq, Int.reduceToNat, Int.reduceAdd, Int.reduceSub, Int.reduceMul, Int.reduceNeg, reduceCtorEq, Option.bind_some, Option.map_some, List.length_cons, List.length_nil, vcM, List.getElem?_toArray, List.getElem?_cons_zero, List.getElem?_cons_succ, a0, a1, a2, s0, s1, s2, w0, w2])
  (refine W_at c65_ok ?_; refine ⟨_, rfl, ?_⟩; simp (disch := first | omega | assumption | rfl | (simp only [vcS] <;> omega) | fail) only [↓ptV_l, ↓vcA, vcB, ↓vcD, vcE, ↓reduceIte, Nat.reduceEqDiff, Nat.reduceAdd, Nat.reduceMul, Nat.reduceLeDiff, Int.reduceLE, Int.reduceLT, Int.reduceEq, Int.reduceToNat, Int.reduceAdd, Int.reduceSub, Int.reduceMul, Int.reduceNeg, reduceCtorEq, Option.bind_some, Option.map_some, List.length_cons, List.length_nil, vcM, List.getElem?_toArray, List.getElem?_cons_zero, List.getElem?_cons_succ, a0, a1, a2, s0, s1, s2, w0, w2])
  (refine W_at c65_ok ?_; refine ⟨_, rfl, ?_⟩; simp (disch := first | omega | assumption | rfl | (simp only [vcS] <;> omega) | fail) only [↓ptV_l, ↓vcA, vcB, ↓vcD, vcE, ↓reduceIte, Nat.reduceEqDiff, Nat.reduceAdd, Nat.reduceMul, Nat.reduceLeDiff, Int.reduceLE, Int.reduceLT, Int.reduceEq, Int.reduceToNat, Int.reduceAdd, Int.reduceSub, Int.reduceMul, Int.reduceNeg, reduceCtorEq, Option.bind_some, Option.map_some, List.length_cons, List.length_nil, vcM, List.getElem?_toArray, List.getElem?_cons_zero, List.getElem?_cons_succ, a0, a1, a2, s0, s1, s2, w0, w2])
  (refine W_at c65_ok ?_; refine ⟨_, rfl, ?_⟩; simp (disch := first | omega | assumption | rfl | (simp only [vcS] <;> omega) | fail) only [↓ptV_l, ↓vcA, vcB, ↓vcD, vcE, ↓reduceIte, Nat.reduceEqDiff, Nat.reduceAdd, Nat.reduceMul, Nat.reduceLeDiff, Int.reduceLE, Int.reduceLT, Int.reduceEq, Int.reduceToNat, Int.reduceAdd, Int.reduceSub, Int.reduceMul, Int.reduceNeg, reduceCtorEq, Option.bind_some, Option.map_some, List.length_cons, List.length_nil, vcM, List.getElem?_toArray, List.getElem?_cons_zero, List.getElem?_cons_succ, a0, a1, a2, s0, s1, s2, w0, w2])
  (refine W_at c65_ok ?_; refine ⟨_, rfl, ?_⟩; simp (disch := first | omega | assumption | rfl | (simp only [vcS] <;> omega) | fail) only [↓ptV_l, ↓vcA, vcB, ↓vcD, vcE, ↓reduceIte, Nat.reduceEqDiff, Nat.reduceAdd, Nat.reduceMul, Nat.reduceLeDiff, Int.reduceLE, Int.reduceLT, Int.reduceEq, Int.reduceToNat, Int.reduceAdd, Int.reduceSub, Int.reduceMul, Int.reduceNeg, reduceCtorEq, Option.bind_some, Option.map_some, List.length_cons, List.length_nil, vcM, List.getElem?_toArray, List.getElem?_cons_zero, List.getElem?_cons_succ, a0, a1, a2, s0, s1, s2, w0, w2])
  (refine W_at c65_ok ?_; refine ⟨_, rfl, ?_⟩; simp (disch := first | omega | assumption | rfl | (simp only [vcS] <;> omega) | fail) only [↓ptV_l, ↓vcA, vcB, ↓vcD, vcE, ↓reduceIte, Nat.reduceEqDiff, Nat.reduceAdd, Nat.reduceMul, Nat.reduceLeDiff, Int.reduceLE, Int.reduceLT, Int.reduceEq, Int.reduceToNat, Int.reduceAdd, Int.reduceSub, Int.reduceMul, Int.reduceNeg, reduceCtorEq, Option.bind_some, Option.map_some, List.length_cons, List.length_nil, vcM, List.getElem?_toArray, List.getElem?_cons_zero, List.getElem?_cons_succ, a0, a1, a2, s0, s1, s2, w0, w2])
  (refine W_at c65_ok ?_; refine ⟨_, rfl, ?_⟩; simp (disch := first | omega | assumption | rfl | (simp only [vcS] <;> omega) | fail) only [↓ptV_l, ↓vcA, vcB, ↓vcD, vcE, ↓reduceIte, Nat.reduceEqDiff, Nat.reduceAdd, Nat.reduceMul, Nat.reduceLeDiff, Int.reduceLE, Int.reduceLT, Int.reduceEq, Int.reduceToNat, Int.reduceAdd, Int.reduceSub, Int.reduceMul, Int.reduceNeg, reduceCtorEq, Option.bind_some, Option.map_some, List.length_cons, List.length_nil, vcM, List.getElem?_toArray, List.getElem?_cons_zero, List.getElem?_cons_succ, a0, a1, a2, s0, s1, s2, w0, w2])
  (refine W_at c65_ok ?_; refine ⟨_, rfl, ?_⟩; simp (disch := first | omega | assumption | rfl | (simp only [vcS] <;> omega) | fail) only [↓ptV_l, ↓vcA, vcB, ↓vcD, vcE, ↓reduceIte, Nat.reduceEqDiff, Nat.reduceAdd, Nat.reduceMul, Nat.reduceLeDiff, Int.reduceLE, Int.reduceLT, Int.reduceEq, Int.reduceToNat, Int.reduceAdd, Int.reduceSub, Int.reduceMul, Int.reduceNeg, reduceCtorEq, Option.bind_some, Option.map_some, List.length_cons, List.length_nil, vcM, List.getElem?_toArray, List.getElem?_cons_zero, List.getElem?_cons_succ, a0, a1, a2, s0, s1, s2, w0, w2])
  (refine W_at c65_ok ?_; refine ⟨_, rfl, ?_⟩; simp (disch := first | omega | assumption | rfl | (simp only [vcS] <;> omega) | fail) only [↓ptV_l, ↓vcA, vcB, ↓vcD, vcE, ↓reduceIte, Nat.reduceEqDiff, Nat.reduceAdd, Nat.reduceMul, Nat.reduceLeDiff, Int.reduceLE, Int.reduceLT, Int.reduceEq, Int.reduceToNat, Int.reduceAdd, Int.reduceSub, Int.reduceMul, Int.reduceNeg, reduceCtorEq, Option.bind_some, Option.map_some, List.length_cons, List.length_nil, vcM, List.getElem?_toArray, List.getElem?_cons_zero, List.getElem?_cons_succ, a0, a1, a2, s0, s1, s2, w0, w2])
  (refine W_at c65_ok ?_; refine ⟨_, rfl, ?_⟩; simp (disch := first | omega | assumption | rfl | (simp only [vcS] <;> omega) | fail) only [↓ptV_l, ↓vcA, vcB, ↓vcD, vcE, ↓reduceIte, Nat.reduceEqDiff, Nat.reduceAdd, Nat.reduceMul, Nat.reduceLeDiff, Int.reduceLE, Int.reduceLT, Int.reduceEq, Int.reduceToNat, Int.reduceAdd, Int.reduceSub, Int.reduceMul, Int.reduceNeg, reduceCtorEq, Option.bind_some, Option.map_some, List.length_cons, List.length_nil, vcM, List.getElem?_toArray, List.getElem?_cons_zero, List.getElem?_cons_succ, a0, a1, a2, s0, s1, s2, w0, w2])
  (refine W_at c65_ok ?_; refine ⟨_, rfl, ?_⟩; simp (disch := first | omega | assumption | rfl | (simp only [vcS] <;> omega) | fail) only [↓ptV_l, ↓vcA, vcB, ↓vcD, vcE, ↓reduceIte, Nat.reduceEqDiff, Nat.reduceAdd, Nat.reduceMul, Nat.reduceLeDiff, Int.reduceLE, Int.reduceLT, Int.reduceEq, Int.reduceToNat, Int.reduceAdd, Int.reduceSub, Int.reduceMul, Int.reduceNeg, reduceCtorEq, Option.bind_some, Option.map_some, List.length_cons, List.length_nil, vcM, List.getElem?_toArray, List.getElem?_cons_zero, List.getElem?_cons_succ, a0, a1, a2, s0, s1, s2, w0, w2])
  (refine W_at c65_ok ?_; refine ⟨_, rfl, ?_⟩; simp (disch := first | omega | assumption | rfl | (simp only [vcS] <;> omega) | fail) only [↓ptV_l, ↓vcA, vcB, ↓vcD, vcE, ↓reduceIte, Nat.reduceEqDiff, Nat.reduceAdd, Nat.reduceMul, Nat.reduceLeDiff, Int.reduceLE, Int.reduceLT, Int.reduceEq, Int.reduceToNat, Int.reduceAdd, Int.reduceSub, Int.reduceMul, Int.reduceNeg, reduceCtorEq, Option.bind_some, Option.map_some, List.length_cons, List.length_nil, vcM, List.getElem?_toArray, List.getElem?_cons_zero, List.getElem?_cons_succ, Ret_returned])
theorem mul_ok (w : World) : Calls Tryd.prog 53 #[.int .u64 1, .int .u64 2] w (Ret fun u w' => u = .tuple #[.int .u64 0, .int .u64 2] ∧ w' = w) := by
  refine calls_of_cfg c53_ok (Nat.le_of_ble_eq_true rfl) ?_
  simp only [argE_nil, argE_cons, Nat.reduceAdd, Nat.zero_add]
  have w0 : IntKind.u64.wrap 0 = 0 := by decide
  have w2 : IntKind.u64.wrap 2 = 2 := by decide
  (refine W_at c53_ok ?_; refine ⟨_, rfl, ?_⟩; simp (disch := first | omega | assumption | rfl | (simp only [vcS] <;> omega) | fail) only [↓ptV_l, ↓vcA, vcB, ↓vcD, vcE, ↓reduceIte, Nat.reduceEqDiff, Nat.reduceAdd, Nat.reduceMul, Nat.reduceLeDiff, Int.reduceLE, Int.reduceLT, Int.reduceEq, Int.reduceToNat, Int.reduceAdd, Int.reduceSub, Int.reduceMul, Int.reduceNeg, reduceCtorEq, Option.bind_some, Option.map_some, List.length_cons, List.length_nil, vcM, List.getElem?_toArray, List.getElem?_cons_zero, List.getElem?_cons_succ])
  (refine W_at c53_ok ?_; refine ⟨_, rfl, ?_⟩; simp (disch := first | omega | assumption | rfl | (simp only [vcS] <;> omega) | fail) only [↓ptV_l, ↓vcA, vcB, ↓vcD, vcE, ↓reduceIte, Nat.reduceEqDiff, Nat.reduceAdd, Nat.reduceMul, Nat.reduceLeDiff, Int.reduceLE, Int.reduceLT, Int.reduceEq, Int.reduceToNat, Int.reduceAdd, Int.reduceSub, Int.reduceMul, Int.reduceNeg, reduceCtorEq, Option.bind_some, Option.map_some, List.length_cons, List.length_nil, vcM, List.getElem?_toArray, List.getElem?_cons_zero, List.getElem?_cons_succ])
  (refine W_at c53_ok ?_; refine ⟨_, rfl, ?_⟩; simp (disch := first | omega | assumption | rfl | (simp only [vcS] <;> omega) | fail) only [↓ptV_l, ↓vcA, vcB, ↓vcD, vcE, ↓reduceIte, Nat.reduceEqDiff, Nat.reduceAdd, Nat.reduceMul, Nat.reduceLeDiff, Int.reduceLE, Int.reduceLT, Int.reduceEq, Int.reduceToNat, Int.reduceAdd, Int.reduceSub, Int.reduceMul, Int.reduceNeg, reduceCtorEq, Option.bind_some, Option.map_some, List.length_cons, List.length_nil, vcM, List.getElem?_toArray, List.getElem?_cons_zero, List.getElem?_cons_succ])
  refine callV_ret (mul64_ok w) ?_
  rintro _ w1 ⟨rfl, hw⟩
  obtain rfl : w = w1 := hw.symm
  first | (simp (disch := first | omega | assumption | rfl | (simp only [vcS] <;> omega) | fail) only [↓ptV_l, ↓vcA, vcB, ↓vcD, vcE, ↓reduceIte, Nat.reduceEqDiff, Nat.reduceAdd, Nat.reduceMul, Nat.reduceLeDiff, Int.reduceLE, Int.reduceLT, Int.reduceEq, Int.reduceToNat, Int.reduceAdd, Int.reduceSub, Int.reduceMul, Int.reduceNeg, reduceCtorEq, Option.bind_some, Option.map_some, List.length_cons, List.length_nil, vcM, List.getElem?_toArray, List.getElem?_cons_zero, List.getElem?_cons_succ]) | skip
  (refine W_at c53_ok ?_; refine ⟨_, rfl, ?_⟩; simp (disch := first | omega | assumption | rfl | (simp only [vcS] <;> omega) | fail) only [↓ptV_l, ↓vcA, vcB, ↓vcD, vcE, ↓reduceIte, Nat.reduceEqDiff, Nat.reduceAdd, Nat.reduceMul, Nat.reduceLeDiff, Int.reduceLE, Int.reduceLT, Int.reduceEq, Int.reduceToNat, Int.reduceAdd, Int.reduceSub, Int.reduceMul, Int.reduceNeg, reduceCtorEq, Option.bind_some, Option.map_some, List.length_cons, List.length_nil, vcM, List.getElem?_toArray, List.getElem?_cons_zero, List.getElem?_cons_succ])
  (refine W_at c53_ok ?_; refine ⟨_, rfl, ?_⟩; simp (disch := first | omega | assumption | rfl | (simp only [vcS] <;> omega) | fail) only [↓ptV_l, ↓vcA, vcB, ↓vcD, vcE, ↓reduceIte, Nat.reduceEqDiff, Nat.reduceAdd, Nat.reduceMul, Nat.reduceLeDiff, Int.reduceLE, Int.reduceLT, Int.reduceEq, Int.reduceToNat, Int.reduceAdd, Int.reduceSub, Int.reduceMul, Int.reduceNeg, reduceCtorEq, Option.bind_some, Option.map_some, List.length_cons, List.length_nil, vcM, List.getElem?_toArray, List.getElem?_cons_zero, List.getElem?_cons_succ, Ret_returned])
theorem noZero_run {P : Program} {f : FuncId} {fn : Func} {ps : Array TypeId} {t : TypeId} (ht : P.underlying t = some (.slice 5)) (hf : P.funcs[f]? = some fn) (hname : (fn.name == "runtime.NumGoroutine") = false) (hb : fn.body.isNone = true) (hn : Extern.findNext fn = none) (he : Extern.find fn = some (Extern.BytealgMakeNoZero.makeNoZero ps #[t])) (w : World) (n : Nat) (hn2 : n ≤ 1000000) :
    ∃ cs : Array Value, (callFunc f [Value.int .i64 n].toArray).run P w = .ok (.value (.slice (some ⟨w.heap.size, 0, none⟩) n cs.size)) (w.drew.drew.alloc (.cells cs 5)) ∧ n ≤ cs.size ∧ cs.size ≤ maxLen := by
  obtain ⟨cs, h1, h2, h3⟩ := Lib.run_makeNoZero (P := P) w ps t 5 ht n (by omega)
  refine ⟨cs, ?_, h2, h3 (by simp only [maxLen]; omega)⟩
  rw [run_callFunc_extern hf hname hb hn he]
  show ((Extern.BytealgMakeNoZero.makeNoZero ps #[t] #[.int .i64 n]).run P w).andThen _ = _
  rw [h1]
  rfl
/-- Bytes that fill what they lie in. -/
structure Full (w0 w : World) (u : Value) (bs : List Int) : Prop where
  is : ∃ g cur, u = .slice (some ⟨g, 0, none⟩) bs.length bs.length ∧ w.heap[g]? = some (.cells cur 5 (0, 0)) ∧ w0.heap.size ≤ g
  rd : Rd w u bs
  ext : Ext w0 w
theorem repeat2_ok (w : World) (v : Value) (c : Int) (h : Rd w v [c]) :
    Calls Tryd.prog 41 #[v, .int .i64 2] w (Ret fun u w' => Full w w' u [c, c]) := by
  refine calls_of_cfg c41_ok (Nat.le_of_ble_eq_true rfl) ?_
  simp only [argE_nil, argE_cons, Nat.reduceAdd, Nat.zero_add]
  have hlen : lenR v = some (.int .i64 1) := h.len
  have w1' : IntKind.u64.wrap 1 = 1 := by decide
  have w2' : IntKind.u64.wrap 2 = 2 := by decide
  have v2 : IntKind.i64.wrap 2 = 2 := by decide
  (refine W_at c41_ok ?_; refine ⟨_, rfl, ?_⟩; simp (disch := first | omega | assumption | rfl | (simp only [vcS] <;> omega) | fail) only [↓ptV_l, ↓vcA, vcB, ↓vcD, vcE, ↓reduceIte, Nat.reduceEqDiff, Nat.reduceAdd, Nat.reduceMul, Nat.reduceLeDiff, Int.reduceLE, Int.reduceLT, Int.reduceEq, Int.reduceToNat, Int.reduceAdd, Int.reduceSub, Int.reduceMul, Int.reduceNeg, reduceCtorEq, Option.bind_some, Option.map_some, List.length_cons, List.length_nil, vcM, List.getElem?_toArray, List.getElem?_cons_zero, List.getElem?_cons_succ])
  (refine W_at c41_ok ?_; refine ⟨_, rfl, ?_⟩; simp (disch := first | omega | assumption | rfl | (simp only [vcS] <;> omega) | fail) only [↓ptV_l, ↓vcA, vcB, ↓vcD, vcE, ↓reduceIte, Nat.reduceEqDiff, Nat.reduceAdd, Nat.reduceMul, Nat.reduceLeDiff, Int.reduceLE, Int.reduceLT, Int.reduceEq, Int.reduceToNat, Int.reduceAdd, Int.reduceSub, Int.reduceMul, Int.reduceNeg, reduceCtorEq, Option.bind_some, Option.map_some, List.length_cons, List.length_nil, vcM, List.getElem?_toArray, List.getElem?_cons_zero, List.getElem?_cons_succ])
  (refine W_at c41_ok ?_; refine ⟨_, rfl, ?_⟩; simp (disch := first | omega | assumption | rfl | (simp only [vcS] <;> omega) | fail) only [↓ptV_l, ↓vcA, vcB, ↓vcD, vcE, ↓reduceIte, Nat.reduceEqDiff, Nat.reduceAdd, Nat.reduceMul, Nat.reduceLeDiff, Int.reduceLE, Int.reduceLT, Int.reduceEq, Int.reduceToNat, Int.reduceAdd, Int.reduceSub, Int.reduceMul, Int.reduceNeg, reduceCtorEq, Option.bind_some, Option.map_some, List.length_cons, List.length_nil, vcM, List.getElem?_toArray, List.getElem?_cons_zero, List.getElem?_cons_succ])
  (refine W_at c41_ok ?_; refine ⟨_, rfl, ?_⟩; simp (disch := first | omega | assumption | rfl | (simp only [vcS] <;> omega) | fail) only [↓ptV_l, ↓vcA, vcB, ↓vcD, vcE, ↓reduceIte, Nat.reduceEqDiff, Nat.reduceAdd, Nat.reduceMul, Nat.reduceLeDiff, Int.reduceLE, Int.reduceLT, Int.reduceEq, Int.reduceToNat, Int.reduceAdd, Int.reduceSub, Int.reduceMul, Int.reduceNeg, reduceCtorEq, Option.bind_some, Option.map_some, List.length_cons, List.length_nil, vcM, List.getElem?_toArray, List.getElem?_cons_zero, List.getElem?_cons_succ])
  (refine W_at c41_ok ?_; refine ⟨_, rfl, ?_⟩; simp (disch := first | omega | assumption | rfl | (simp only [vcS] <;> omega) | fail) only [↓ptV_l, ↓vcA, vcB, ↓vcD, vcE, ↓reduceIte, Nat.reduceEqDiff, Nat.reduceAdd, Nat.reduceMul, Nat.reduceLeDiff, Int.reduceLE, Int.reduceLT, Int.reduceEq, Int.reduceToNat, Int.reduceAdd, Int.reduceSub, Int.reduceMul, Int.reduceNeg, reduceCtorEq, Option.bind_some, Option.map_some, List.length_cons, List.length_nil, vcM, List.getElem?_toArray, List.getElem?_cons_zero, List.getElem?_cons_succ])
  (refine W_at c41_ok ?_; refine ⟨_, rfl, ?_⟩; simp (disch := first | omega | assumption | rfl | (simp only [vcS] <;> omega) | fail) only [↓ptV_l, ↓vcA, vcB, ↓vcD, vcE, ↓reduceIte, Nat.reduceEqDiff, Nat.reduceAdd, Nat.reduceMul, Nat.reduceLeDiff, Int.reduceLE, Int.reduceLT, Int.reduceEq, Int.reduceToNat, Int.reduceAdd, Int.reduceSub, Int.reduceMul, Int.reduceNeg, reduceCtorEq, Option.bind_some, Option.map_some, List.length_cons, List.length_nil, vcM, List.getElem?_toArray, List.getElem?_cons_zero, List.getElem?_cons_succ, hlen, w1', w2'])
  refine callV_ret (mul_ok w) ?_
  rintro _ w1 ⟨rfl, hw⟩
  obtain rfl : w = w1 := hw.symm
  first | (simp (disch := first | omega | assumption | rfl | (simp only [vcS] <;> omega) | fail) only [↓ptV_l, ↓vcA, vcB, ↓vcD, vcE, ↓reduceIte, Nat.reduceEqDiff, Nat.reduceAdd, Nat.reduceMul, Nat.reduceLeDiff, Int.reduceLE, Int.reduceLT, Int.reduceEq, Int.reduceToNat, Int.reduceAdd, Int.reduceSub, Int.reduceMul, Int.reduceNeg, reduceCtorEq, Option.bind_some, Option.map_some, List.length_cons, List.length_nil, vcM, List.getElem?_toArray, List.getElem?_cons_zero, List.getElem?_cons_succ]) | skip
  (refine W_at c41_ok ?_; refine ⟨_, rfl, ?_⟩; simp (disch := first | omega | assumption | rfl | (simp only [vcS] <;> omega) | fail) only [↓ptV_l, ↓vcA, vcB, ↓vcD, vcE, ↓reduceIte, Nat.reduceEqDiff, Nat.reduceAdd, Nat.reduceMul, Nat.reduceLeDiff, Int.reduceLE, Int.reduceLT, Int.reduceEq, Int.reduceToNat, Int.reduceAdd, Int.reduceSub, Int.reduceMul, Int.reduceNeg, reduceCtorEq, Option.bind_some, Option.map_some, List.length_cons, List.length_nil, vcM, List.getElem?_toArray, List.getElem?_cons_zero, List.getElem?_cons_succ])
  (refine W_at c41_ok ?_; refine ⟨_, rfl, ?_⟩; simp (disch := first | omega | assumption | rfl | (simp only [vcS] <;> omega) | fail) only [↓ptV_l, ↓vcA, vcB, ↓vcD, vcE, ↓reduceIte, Nat.reduceEqDiff, Nat.reduceAdd, Nat.reduceMul, Nat.reduceLeDiff, Int.reduceLE, Int.reduceLT, Int.reduceEq, Int.reduceToNat, Int.reduceAdd, Int.reduceSub, Int.reduceMul, Int.reduceNeg, reduceCtorEq, Option.bind_some, Option.map_some, List.length_cons, List.length_nil, vcM, List.getElem?_toArray, List.getElem?_cons_zero, List.getElem?_cons_succ])
  (refine W_at c41_ok ?_; refine ⟨_, rfl, ?_⟩; simp (disch := first | omega | assumption | rfl | (simp only [vcS] <;> omega) | fail) only [↓ptV_l, ↓vcA, vcB, ↓vcD, vcE, ↓reduceIte, Nat.reduceEqDiff, Nat.reduceAdd, Nat.reduceMul, Nat.reduceLeDiff, Int.reduceLE, Int.reduceLT, Int.reduceEq, Int.reduceToNat, Int.reduceAdd, Int.reduceSub, Int.reduceMul, Int.reduceNeg, reduceCtorEq, Option.bind_some, Option.map_some, List.length_cons, List.length_nil, vcM, List.getElem?_toArray, List.getElem?_cons_zero, List.getElem?_cons_succ, v2])
  (refine W_at c41_ok ?_; refine ⟨_, rfl, ?_⟩; simp (disch := first | omega | assumption | rfl | (simp only [vcS] <;> omega) | fail) only [↓ptV_l, ↓vcA, vcB, ↓vcD, vcE, ↓reduceIte, Nat.reduceEqDiff, Nat.reduceAdd, Nat.reduceMul, Nat.reduceLeDiff, Int.reduceLE, Int.reduceLT, Int.reduceEq, Int.reduceToNat, Int.reduceAdd, Int.reduceSub, Int.reduceMul, Int.reduceNeg, reduceCtorEq, Option.bind_some, Option.map_some, List.length_cons, List.length_nil, vcM, List.getElem?_toArray, List.getElem?_cons_zero, List.getElem?_cons_succ, hlen])
  (refine W_at c41_ok ?_; refine ⟨_, rfl, ?_⟩; simp (disch := first | omega | assumption | rfl | (simp only [vcS] <;> omega) | fail) only [↓ptV_l, ↓vcA, vcB, ↓vcD, vcE, ↓reduceIte, Nat.reduceEqDiff, Nat.reduceAdd, Nat.reduceMul, Nat.reduceLeDiff, Int.reduceLE, Int.reduceLT, Int.reduceEq, Int.reduceToNat, Int.reduceAdd, Int.reduceSub, Int.reduceMul, Int.reduceNeg, reduceCtorEq, Option.bind_some, Option.map_some, List.length_cons, List.length_nil, vcM, List.getElem?_toArray, List.getElem?_cons_zero, List.getElem?_cons_succ])
  (refine W_at c41_ok ?_; refine ⟨_, rfl, ?_⟩; simp (disch := first | omega | assumption | rfl | (simp only [vcS] <;> omega) | fail) only [↓ptV_l, ↓vcA, vcB, ↓vcD, vcE, ↓reduceIte, Nat.reduceEqDiff, Nat.reduceAdd, Nat.reduceMul, Nat.reduceLeDiff, Int.reduceLE, Int.reduceLT, Int.reduceEq, Int.reduceToNat, Int.reduceAdd, Int.reduceSub, Int.reduceMul, Int.reduceNeg, reduceCtorEq, Option.bind_some, Option.map_some, List.length_cons, List.length_nil, vcM, List.getElem?_toArray, List.getElem?_cons_zero, List.getElem?_cons_succ, v2])
  (refine W_at c41_ok ?_; refine ⟨_, rfl, ?_⟩; simp (disch := first | omega | assumption | rfl | (simp only [vcS] <;> omega) | fail) only [↓ptV_l, ↓vcA, vcB, ↓vcD, vcE, ↓reduceIte, Nat.reduceEqDiff, Nat.reduceAdd, Nat.reduceMul, Nat.reduceLeDiff, Int.reduceLE, Int.reduceLT, Int.reduceEq, Int.reduceToNat, Int.reduceAdd, Int.reduceSub, Int.reduceMul, Int.reduceNeg, reduceCtorEq, Option.bind_some, Option.map_some, List.length_cons, List.length_nil, vcM, List.getElem?_toArray, List.getElem?_cons_zero, List.getElem?_cons_succ])
  (refine W_at c41_ok ?_; refine ⟨_, rfl, ?_⟩; simp (disch := first | omega | assumption | rfl | (simp only [vcS] <;> omega) | fail) only [↓ptV_l, ↓vcA, vcB, ↓vcD, vcE, ↓reduceIte, Nat.reduceEqDiff, Nat.reduceAdd, Nat.reduceMul, Nat.reduceLeDiff, Int.reduceLE, Int.reduceLT, Int.reduceEq, Int.reduceToNat, Int.reduceAdd, Int.reduceSub, Int.reduceMul, Int.reduceNeg, reduceCtorEq, Option.bind_some, Option.map_some, List.length_cons, List.length_nil, vcM, List.getElem?_toArray, List.getElem?_cons_zero, List.getElem?_cons_succ])
  (refine W_at c41_ok ?_; refine ⟨_, rfl, ?_⟩; simp (disch := first | omega | assumption | rfl | (simp only [vcS] <;> omega) | fail) only [↓ptV_l, ↓vcA, vcB, ↓vcD, vcE, ↓reduceIte, Nat.reduceEqDiff, Nat.reduceAdd, Nat.reduceMul, Nat.reduceLeDiff, Int.reduceLE, Int.reduceLT, Int.reduceEq, Int.reduceToNat, Int.reduceAdd, Int.reduceSub, Int.reduceMul, Int.reduceNeg, reduceCtorEq, Option.bind_some, Option.map_some, List.length_cons, List.length_nil, vcM, List.getElem?_toArray, List.getElem?_cons_zero, List.getElem?_cons_succ])
  obtain ⟨cs, hrun, hcs, hcm⟩ := noZero_run (P := Tryd.prog) (ps := #[3]) (t := 22) Tryd.underlying22 Tryd.func54 (by kernel_rfl) (by kernel_rfl) (by kernel_rfl) (by kernel_rfl) w 2 (by decide)
  have hcs1 : (2 : Int) ≤ (cs.size : Int) := by omega
  refine ⟨_, _, hrun, ?_⟩
  have hE1 : Ext w (w.drew.drew.alloc (.cells cs 5)) := (((Keep.refl _ w).drew).drew).alloc _
  have hg1 : (w.drew.drew.alloc (.cells cs 5)).heap[w.heap.size]? = some (.cells cs 5 (0, 0)) := heap_new _ _ _ rfl
  generalize World.alloc _ _ = w1 at hE1 hg1 ⊢
  generalize hgw : w.heap.size = g at hg1 ⊢
  have hsl : slc3R 1 none (Value.int IntKind.i64 2) (Value.int IntKind.i64 2) (Value.slice (some { block := g, off := 0 }) 2 cs.size) = some (.slice (some ⟨g, 0, none⟩) 2 2) := by
    simp [slc3R, hcs1, advA]
  first | (simp (disch := first | omega | assumption | rfl | (simp only [vcS] <;> omega) | fail) only [↓ptV_l, ↓vcA, vcB, ↓vcD, vcE, ↓reduceIte, Nat.reduceEqDiff, Nat.reduceAdd, Nat.reduceMul, Nat.reduceLeDiff, Int.reduceLE, Int.reduceLT, Int.reduceEq, Int.reduceToNat, Int.reduceAdd, Int.reduceSub, Int.reduceMul, Int.reduceNeg, reduceCtorEq, Option.bind_some, Option.map_some, List.length_cons, List.length_nil, vcM, List.getElem?_toArray, List.getElem?_cons_zero, List.getElem?_cons_succ, hsl]) | skip
  (refine W_at c41_ok ?_; refine ⟨_, rfl, ?_⟩; simp (disch := first | omega | assumption | rfl | (simp only [vcS] <;> omega) | fail) only [↓ptV_l, ↓vcA, vcB, ↓vcD, vcE, ↓reduceIte, Nat.reduceEqDiff, Nat.reduceAdd, Nat.reduceMul, Nat.reduceLeDiff, Int.reduceLE, Int.reduceLT, Int.reduceEq, Int.reduceToNat, Int.reduceAdd, Int.reduceSub, Int.reduceMul, Int.reduceNeg, reduceCtorEq, Option.bind_some, Option.map_some, List.length_cons, List.length_nil, vcM, List.getElem?_toArray, List.getElem?_cons_zero, List.getElem?_cons_succ])
  refine cpy_in (bs := [c]) hg1 (by simp; omega) (h.ext hE1) (by simp) fun w2 hg2 k2 => ?_
  first | (simp (disch := first | omega | assumption | rfl | (simp only [vcS] <;> omega) | fail) only [↓ptV_l, ↓vcA, vcB, ↓vcD, vcE, ↓reduceIte, Nat.reduceEqDiff, Nat.reduceAdd, Nat.reduceMul, Nat.reduceLeDiff, Int.reduceLE, Int.reduceLT, Int.reduceEq, Int.reduceToNat, Int.reduceAdd, Int.reduceSub, Int.reduceMul, Int.reduceNeg, reduceCtorEq, Option.bind_some, Option.map_some, List.length_cons, List.length_nil, vcM, List.getElem?_toArray, List.getElem?_cons_zero, List.getElem?_cons_succ]) | skip
  (refine W_at c41_ok ?_; refine ⟨_, rfl, ?_⟩; simp (disch := first | omega | assumption | rfl | (simp only [vcS] <;> omega) | fail) only [↓ptV_l, ↓vcA, vcB, ↓vcD, vcE, ↓reduceIte, Nat.reduceEqDiff, Nat.reduceAdd, Nat.reduceMul, Nat.reduceLeDiff, Int.reduceLE, Int.reduceLT, Int.reduceEq, Int.reduceToNat, Int.reduceAdd, Int.reduceSub, Int.reduceMul, Int.reduceNeg, reduceCtorEq, Option.bind_some, Option.map_some, List.length_cons, List.length_nil, vcM, List.getElem?_toArray, List.getElem?_cons_zero, List.getElem?_cons_succ])
  (refine W_at c41_ok ?_; refine ⟨_, rfl, ?_⟩; simp (disch := first | omega | assumption | rfl | (simp only [vcS] <;> omega) | fail) only [↓ptV_l, ↓vcA, vcB, ↓vcD, vcE, ↓reduceIte, Nat.reduceEqDiff, Nat.reduceAdd, Nat.reduceMul, Nat.reduceLeDiff, Int.reduceLE, Int.reduceLT, Int.reduceEq, Int.reduceToNat, Int.reduceAdd, Int.reduceSub, Int.reduceMul, Int.reduceNeg, reduceCtorEq, Option.bind_some, Option.map_some, List.length_cons, List.length_nil, vcM, List.getElem?_toArray, List.getElem?_cons_zero, List.getElem?_cons_succ])
  (refine W_at c41_ok ?_; refine ⟨_, rfl, ?_⟩; simp (disch := first | omega | assumption | rfl | (simp only [vcS] <;> omega) | fail) only [↓ptV_l, ↓vcA, vcB, ↓vcD, vcE, ↓reduceIte, Nat.reduceEqDiff, Nat.reduceAdd, Nat.reduceMul, Nat.reduceLeDiff, Int.reduceLE, Int.reduceLT, Int.reduceEq, Int.reduceToNat, Int.reduceAdd, Int.reduceSub, Int.reduceMul, Int.reduceNeg, reduceCtorEq, Option.bind_some, Option.map_some, List.length_cons, List.length_nil, vcM, List.getElem?_toArray, List.getElem?_cons_zero, List.getElem?_cons_succ])
  have hmin : min (1 : Int) 2 = 1 := by decide
  have hws : (spliceA cs 0 (bv [c]).toArray).size = cs.size := by
    simp only [spliceA, List.size_toArray, List.length_append, List.length_take, List.length_drop, Array.length_toList, bv_len]
    simp; omega
  have hr2 : Rd w2 (.slice (some ⟨g, 0, none⟩) 1 2) [c] := by
    refine ⟨⟨_, _, rfl, by simp⟩, by simp [maxLen], ?_⟩
    simp only [rdS]
    rw [if_neg (by simp)]
    simp only [rdN_heap, hg2]
    rw [rdO_some _ _ _ _ _ (by rw [hws]; simp; omega)]
    congr 1
    apply Array.ext'
    simp [spliceA, bv, List.extract_eq_take_drop]
  have hE2 : Ext w w2 := hE1.trans k2 fun i hi e => by omega
  have hadv : advA 1 (some ⟨g, 0, none⟩) 2 1 = some ⟨g, 1, none⟩ := by simp [advA, Addr.add]
  have a12 : IntKind.i64.wrap (1 + 1) = 2 := by decide
  have a2 : IntKind.i64.wrap 2 = 2 := by decide
  (refine W_at c41_ok ?_; refine ⟨_, rfl, ?_⟩; simp (disch := first | omega | assumption | rfl | (simp only [vcS] <;> omega) | fail) only [↓ptV_l, ↓vcA, vcB, ↓vcD, vcE, ↓reduceIte, Nat.reduceEqDiff, Nat.reduceAdd, Nat.reduceMul, Nat.reduceLeDiff, Int.reduceLE, Int.reduceLT, Int.reduceEq, Int.reduceToNat, Int.reduceAdd, Int.reduceSub, Int.reduceMul, Int.reduceNeg, reduceCtorEq, Option.bind_some, Option.map_some, List.length_cons, List.length_nil, vcM, List.getElem?_toArray, List.getElem?_cons_zero, List.getElem?_cons_succ, hmin, hadv, advA_0])
  refine cpy_in (bs := [c]) (show w2.drew.heap[g]? = _ from hg2) (by rw [hws]; omega) (hr2.ext ((Keep.refl _ w2).drew)) (by simp) fun w3 hg3 k3 => ?_
  first | (simp (disch := first | omega | assumption | rfl | (simp only [vcS] <;> omega) | fail) only [↓ptV_l, ↓vcA, vcB, ↓vcD, vcE, ↓reduceIte, Nat.reduceEqDiff, Nat.reduceAdd, Nat.reduceMul, Nat.reduceLeDiff, Int.reduceLE, Int.reduceLT, Int.reduceEq, Int.reduceToNat, Int.reduceAdd, Int.reduceSub, Int.reduceMul, Int.reduceNeg, reduceCtorEq, Option.bind_some, Option.map_some, List.length_cons, List.length_nil, vcM, List.getElem?_toArray, List.getElem?_cons_zero, List.getElem?_cons_succ, a12, a2]) | skip
  (refine W_at c41_ok ?_; refine ⟨_, rfl, ?_⟩; simp (disch := first | omega | assumption | rfl | (simp only [vcS] <;> omega) | fail) only [↓ptV_l, ↓vcA, vcB, ↓vcD, vcE, ↓reduceIte, Nat.reduceEqDiff, Nat.reduceAdd, Nat.reduceMul, Nat.reduceLeDiff, Int.reduceLE, Int.reduceLT, Int.reduceEq, Int.reduceToNat, Int.reduceAdd, Int.reduceSub, Int.reduceMul, Int.reduceNeg, reduceCtorEq, Option.bind_some, Option.map_some, List.length_cons, List.length_nil, vcM, List.getElem?_toArray, List.getElem?_cons_zero, List.getElem?_cons_succ, a12, a2])
  (refine W_at c41_ok ?_; refine ⟨_, rfl, ?_⟩; simp (disch := first | omega | assumption | rfl | (simp only [vcS] <;> omega) | fail) only [↓ptV_l, ↓vcA, vcB, ↓vcD, vcE, ↓reduceIte, Nat.reduceEqDiff, Nat.reduceAdd, Nat.reduceMul, Nat.reduceLeDiff, Int.reduceLE, Int.reduceLT, Int.reduceEq, Int.reduceToNat, Int.reduceAdd, Int.reduceSub, Int.reduceMul, Int.reduceNeg, reduceCtorEq, Option.bind_some, Option.map_some, List.length_cons, List.length_nil, vcM, List.getElem?_toArray, List.getElem?_cons_zero, List.getElem?_cons_succ])
  (refine W_at c41_ok ?_; refine ⟨_, rfl, ?_⟩; simp (disch := first | omega | assumption | rfl | (simp only [vcS] <;> omega) | fail) only [↓ptV_l, ↓vcA, vcB, ↓vcD, vcE, ↓reduceIte, Nat.reduceEqDiff, Nat.reduceAdd, Nat.reduceMul, Nat.reduceLeDiff, Int.reduceLE, Int.reduceLT, Int.reduceEq, Int.reduceToNat, Int.reduceAdd, Int.reduceSub, Int.reduceMul, Int.reduceNeg, reduceCtorEq, Option.bind_some, Option.map_some, List.length_cons, List.length_nil, vcM, List.getElem?_toArray, List.getElem?_cons_zero, List.getElem?_cons_succ])
  (refine W_at c41_ok ?_; refine ⟨_, rfl, ?_⟩; simp (disch := first | omega | assumption | rfl | (simp only [vcS] <;> omega) | fail) only [↓ptV_l, ↓vcA, vcB, ↓vcD, vcE, ↓reduceIte, Nat.reduceEqDiff, Nat.reduceAdd, Nat.reduceMul, Nat.reduceLeDiff, Int.reduceLE, Int.reduceLT, Int.reduceEq, Int.reduceToNat, Int.reduceAdd, Int.reduceSub, Int.reduceMul, Int.reduceNeg, reduceCtorEq, Option.bind_some, Option.map_some, List.length_cons, List.length_nil, vcM, List.getElem?_toArray, List.getElem?_cons_zero, List.getElem?_cons_succ])
  (refine W_at c41_ok ?_; refine ⟨_, rfl, ?_⟩; simp (disch := first | omega | assumption | rfl | (simp only [vcS] <;> omega) | fail) only [↓ptV_l, ↓vcA, vcB, ↓vcD, vcE, ↓reduceIte, Nat.reduceEqDiff, Nat.reduceAdd, Nat.reduceMul, Nat.reduceLeDiff, Int.reduceLE, Int.reduceLT, Int.reduceEq, Int.reduceToNat, Int.reduceAdd, Int.reduceSub, Int.reduceMul, Int.reduceNeg, reduceCtorEq, Option.bind_some, Option.map_some, List.length_cons, List.length_nil, vcM, List.getElem?_toArray, List.getElem?_cons_zero, List.getElem?_cons_succ, Ret_returned])
  have hE3 : Ext w w3 := (hE2.drew).trans k3 fun i hi e => by omega
  refine ⟨⟨g, _, rfl, hg3, by omega⟩, ⟨⟨_, _, rfl, by simp⟩, by simp [maxLen], ?_⟩, hE3⟩
  have hws2 : (spliceA (spliceA cs 0 (bv [c]).toArray) 1 (bv [c]).toArray).size = cs.size := by
    rw [← hws]
    simp only [spliceA, List.size_toArray, List.length_append, List.length_take, List.length_drop, Array.length_toList, bv_len]
    simp; omega
  simp only [rdS]
  rw [if_neg (by simp)]
  simp only [rdN_heap, hg3]
  rw [rdO_some _ _ _ _ _ (by rw [hws2]; simp; omega)]
  congr 1
  apply Array.ext'
  simp [spliceA, bv, List.extract_eq_take_drop]
end Go.Proofs
namespace Go.Proofs
open Go.Vc Go.RowKit
set_option maxRecDepth 10000

def l58S : List Int := [49, 50, 51, 52, 53, 54, 55, 56, 57, 65, 66, 67, 68, 69, 70, 71, 72, 74, 75, 76, 77, 78, 80, 81, 82, 83, 84, 85, 86, 87, 88, 89, 90, 97, 98, 99, 100, 101, 102, 103, 104, 105, 106, 107, 109, 110, 111, 112, 113, 114, 115, 116, 117, 118, 119, 120, 121, 122]
theorem l58S_is : (⟨#[49, 50, 51, 52, 53, 54, 55, 56, 57, 65, 66, 67, 68, 69, 70, 71, 72, 74, 75, 76, 77, 78, 80, 81, 82, 83, 84, 85, 86, 87, 88, 89, 90, 97, 98, 99, 100, 101, 102, 103, 104, 105, 106, 107, 109, 110, 111, 112, 113, 114, 115, 116, 117, 118, 119, 120, 121, 122]⟩ : ByteArray) = strOf l58S := by decide +kernel
/-- 'append' onto bytes that fill what they lie in. -/
theorem appFull {w0 w : World} {v : Value} {bs : List Int} {c : Int} {K : Value → World → Prop} (h : Full w0 w v bs) (hl : bs.length ≤ 100000)
    (hk : ∀ v' w', New w0 w' v' (bs ++ [c]) → Ext w w' → (∀ g, blk v' g → w.heap.size ≤ g) → K v' w') :
    appV 5 1 1 [.int .u8 0] v (.slice (some ⟨w.heap.size, 0, none⟩) 1 1) (w.alloc (.cells (bv [c]).toArray 5)) K := by
  obtain ⟨⟨g, cur, rfl, hg, hlo⟩, hrd, hext⟩ := h
  have hE : Ext w (w.alloc (.cells (bv [c]).toArray 5)) := (Keep.refl _ w).alloc _
  have h1 := (hrd.ext hE)
  obtain ⟨⟨q, cc, e, hcc⟩, hm, hr⟩ := h1
  have h2 := (own_lit1 (w := w) (bs := [c]) (by simp [maxLen])).rd
  obtain ⟨_, _, hr2⟩ := h2
  have hml : maxLen = 9223372036854775807 := rfl
  unfold appV
  simp only [List.length_cons, List.length_nil, Nat.zero_add] at hr2
  simp only [hr, hr2, getV_some]
  refine ⟨bv_flat _, by omega, by omega, rfl, fun hc => by omega, fun hc => by omega, fun _ c' hc1 hc2 => ?_⟩
  have hsz : (w.alloc (.cells (bv [c]).toArray 5)).heap.size = w.heap.size + 1 := size_alloc _ _
  have hE2 : Ext w ((w.alloc (.cells (bv [c]).toArray 5)).drew.alloc (.cells ((bv bs).toArray.toList ++ (bv [c]).toArray.toList ++ zrep (c' - (bs.length + 1)) [Value.int .u8 0]).toArray 5)) := (hE.drew).alloc _
  refine hk _ _ ⟨?_, hext.ext hE2, fun g' hg' => ?_⟩ hE2 fun g' hg' => ?_
  · refine ⟨by rw [bv_len, Nat.mul_one], .inr ⟨_, c', _, by simp, Nat.zero_le _, heap_alloc_new (w.alloc (.cells (bv [c]).toArray 5)).drew _, by simpa using hc1, hc2, ?_, ?_⟩⟩
    · simp [bv, zrep]; omega
    · simp [bv_app]
      rw [← List.append_assoc, List.take_append_of_le_length (by simp [bv])]
      exact List.take_of_length_le (by simp [bv])
  · have e := Option.some.inj hg'
    have := hext.size
    have : (w.alloc (.cells (bv [c]).toArray 5)).heap.size = g' := e
    omega
  · have e := Option.some.inj hg'
    have : (w.alloc (.cells (bv [c]).toArray 5)).heap.size = g' := e
    omega
set_option maxHeartbeats 1600000 in
theorem base58_aw (w : World) (v : Value) (h : Rd w v [0, 0, 1]) :
    Calls Tryd.prog 22 #[v] w (Ret fun u w' => u = .string (strOf [49, 49, 50]) ∧ Ext w w') := by
  refine calls_of_ct 3 t22_ok (Nat.le_of_ble_eq_true rfl) ?_
  simp only [argE_nil, argE_cons, Nat.reduceAdd, Nat.zero_add]
  have hlen : lenR v = some (.int .i64 3) := h.len
  simp (disch := first | omega | assumption | rfl | (simp only [vcS] <;> omega) | fail) only [t22, ↓vcC, slc3_s, ↓ptV_l, ↓vcA, vcB, ↓vcD, vcE, ↓reduceIte, Nat.reduceEqDiff, Nat.reduceAdd, Nat.reduceMul, Nat.reduceLeDiff, Int.reduceLE, Int.reduceLT, Int.reduceEq, Int.reduceToNat, Int.reduceAdd, Int.reduceSub, Int.reduceMul, Int.reduceNeg, reduceCtorEq, Option.bind_some, Option.map_some, List.length_cons, List.length_nil, vcM, List.getElem?_toArray, List.getElem?_cons_zero, List.getElem?_cons_succ]
  (refine nx_at ?_; simp (disch := first | omega | assumption | rfl | (simp only [vcS] <;> omega) | fail) only [↓vcC, slc3_s, ↓ptV_l, ↓vcA, vcB, ↓vcD, vcE, ↓reduceIte, Nat.reduceEqDiff, Nat.reduceAdd, Nat.reduceMul, Nat.reduceLeDiff, Int.reduceLE, Int.reduceLT, Int.reduceEq, Int.reduceToNat, Int.reduceAdd, Int.reduceSub, Int.reduceMul, Int.reduceNeg, reduceCtorEq, Option.bind_some, Option.map_some, List.length_cons, List.length_nil, vcM, List.getElem?_toArray, List.getElem?_cons_zero, List.getElem?_cons_succ, hlen])
  (refine nx_at ?_; simp (disch := first | omega | assumption | rfl | (simp only [vcS] <;> omega) | fail) only [↓vcC, slc3_s, ↓ptV_l, ↓vcA, vcB, ↓vcD, vcE, ↓reduceIte, Nat.reduceEqDiff, Nat.reduceAdd, Nat.reduceMul, Nat.reduceLeDiff, Int.reduceLE, Int.reduceLT, Int.reduceEq, Int.reduceToNat, Int.reduceAdd, Int.reduceSub, Int.reduceMul, Int.reduceNeg, reduceCtorEq, Option.bind_some, Option.map_some, List.length_cons, List.length_nil, vcM, List.getElem?_toArray, List.getElem?_cons_zero, List.getElem?_cons_succ, hlen])
  (refine nx_at ?_; simp (disch := first | omega | assumption | rfl | (simp only [vcS] <;> omega) | fail) only [↓vcC, slc3_s, ↓ptV_l, ↓vcA, vcB, ↓vcD, vcE, ↓reduceIte, Nat.reduceEqDiff, Nat.reduceAdd, Nat.reduceMul, Nat.reduceLeDiff, Int.reduceLE, Int.reduceLT, Int.reduceEq, Int.reduceToNat, Int.reduceAdd, Int.reduceSub, Int.reduceMul, Int.reduceNeg, reduceCtorEq, Option.bind_some, Option.map_some, List.length_cons, List.length_nil, vcM, List.getElem?_toArray, List.getElem?_cons_zero, List.getElem?_cons_succ])
  have w2' : IntKind.i64.wrap 2 = 2 := by decide
  obtain ⟨b, o, c, hv, hc0⟩ := h.at (i := 0) (by simp)
  obtain ⟨_, _, _, e, hc1⟩ := h.at (i := 1) (by simp)
  rw [hv] at e; cases e
  obtain ⟨_, _, _, e, hc2⟩ := h.at (i := 2) (by simp)
  rw [hv] at e; cases e
  simp only [List.getElem_cons_zero, List.getElem_cons_succ, Nat.add_zero] at hc0 hc1 hc2
  have hv' : v = .slice (some ⟨b, o, none⟩) 3 c := hv
  clear hv
  subst hv'
  refine lp_of (fun j ds e W => ds = [] ∧ W = w ∧ (1 ≤ j ∧ j ≤ 3) ∧ Vc.look e 13 = some (.int .i64 ((3 - j : Nat) : Int)) ∧ Vc.look e 12 = some (.int .i64 3) ∧ Vc.look e 11 = some (.slice (some ⟨b, o, none⟩) 3 c) ∧ Vc.look e 0 = some (.slice (some ⟨b, o, none⟩) 3 c)) 3 ?_ ?_
  · exact ⟨rfl, rfl, ⟨by decide, Nat.le_refl _⟩, rfl, rfl, rfl, rfl⟩
  rintro j ds e W ⟨rfl, rfl, hj, l13, l12, l11, l0⟩
  have w1' : IntKind.i64.wrap 1 = 1 := by decide
  match j, hj with
  | 0, hj => omega
  | 2, _ =>
    have l13' : Vc.look e 13 = some (.int .i64 1) := l13
    simp (disch := first | omega | assumption | rfl | (simp only [vcS] <;> omega) | fail) only [↓vcC, slc3_s, ↓ptV_l, ↓vcA, vcB, ↓vcD, vcE, ↓reduceIte, Nat.reduceEqDiff, Nat.reduceAdd, Nat.reduceMul, Nat.reduceLeDiff, Int.reduceLE, Int.reduceLT, Int.reduceEq, Int.reduceToNat, Int.reduceAdd, Int.reduceSub, Int.reduceMul, Int.reduceNeg, reduceCtorEq, Option.bind_some, Option.map_some, List.length_cons, List.length_nil, vcM, List.getElem?_toArray, List.getElem?_cons_zero, List.getElem?_cons_succ, l13', l12]
    (refine nx_at ?_; simp (disch := first | omega | assumption | rfl | (simp only [vcS] <;> omega) | fail) only [↓vcC, slc3_s, ↓ptV_l, ↓vcA, vcB, ↓vcD, vcE, ↓reduceIte, Nat.reduceEqDiff, Nat.reduceAdd, Nat.reduceMul, Nat.reduceLeDiff, Int.reduceLE, Int.reduceLT, Int.reduceEq, Int.reduceToNat, Int.reduceAdd, Int.reduceSub, Int.reduceMul, Int.reduceNeg, reduceCtorEq, Option.bind_some, Option.map_some, List.length_cons, List.length_nil, vcM, List.getElem?_toArray, List.getElem?_cons_zero, List.getElem?_cons_succ])
    (refine nx_at ?_; simp (disch := first | omega | assumption | rfl | (simp only [vcS] <;> omega) | fail) only [↓vcC, slc3_s, ↓ptV_l, ↓vcA, vcB, ↓vcD, vcE, ↓reduceIte, Nat.reduceEqDiff, Nat.reduceAdd, Nat.reduceMul, Nat.reduceLeDiff, Int.reduceLE, Int.reduceLT, Int.reduceEq, Int.reduceToNat, Int.reduceAdd, Int.reduceSub, Int.reduceMul, Int.reduceNeg, reduceCtorEq, Option.bind_some, Option.map_some, List.length_cons, List.length_nil, vcM, List.getElem?_toArray, List.getElem?_cons_zero, List.getElem?_cons_succ, l13', l11, hc1])
    (refine nx_at ?_; simp (disch := first | omega | assumption | rfl | (simp only [vcS] <;> omega) | fail) only [↓vcC, slc3_s, ↓ptV_l, ↓vcA, vcB, ↓vcD, vcE, ↓reduceIte, Nat.reduceEqDiff, Nat.reduceAdd, Nat.reduceMul, Nat.reduceLeDiff, Int.reduceLE, Int.reduceLT, Int.reduceEq, Int.reduceToNat, Int.reduceAdd, Int.reduceSub, Int.reduceMul, Int.reduceNeg, reduceCtorEq, Option.bind_some, Option.map_some, List.length_cons, List.length_nil, vcM, List.getElem?_toArray, List.getElem?_cons_zero, List.getElem?_cons_succ])
    (refine nx_at ?_; simp (disch := first | omega | assumption | rfl | (simp only [vcS] <;> omega) | fail) only [↓vcC, slc3_s, ↓ptV_l, ↓vcA, vcB, ↓vcD, vcE, ↓reduceIte, Nat.reduceEqDiff, Nat.reduceAdd, Nat.reduceMul, Nat.reduceLeDiff, Int.reduceLE, Int.reduceLT, Int.reduceEq, Int.reduceToNat, Int.reduceAdd, Int.reduceSub, Int.reduceMul, Int.reduceNeg, reduceCtorEq, Option.bind_some, Option.map_some, List.length_cons, List.length_nil, vcM, List.getElem?_toArray, List.getElem?_cons_zero, List.getElem?_cons_succ])
    (refine nx_at ?_; simp (disch := first | omega | assumption | rfl | (simp only [vcS] <;> omega) | fail) only [↓vcC, slc3_s, ↓ptV_l, ↓vcA, vcB, ↓vcD, vcE, ↓reduceIte, Nat.reduceEqDiff, Nat.reduceAdd, Nat.reduceMul, Nat.reduceLeDiff, Int.reduceLE, Int.reduceLT, Int.reduceEq, Int.reduceToNat, Int.reduceAdd, Int.reduceSub, Int.reduceMul, Int.reduceNeg, reduceCtorEq, Option.bind_some, Option.map_some, List.length_cons, List.length_nil, vcM, List.getElem?_toArray, List.getElem?_cons_zero, List.getElem?_cons_succ, l13', w2'])
    exact ⟨1, rfl, ⟨by decide, by decide⟩, rfl, l12, l11, l0⟩
  | 3, _ =>
    have l13' : Vc.look e 13 = some (.int .i64 0) := l13
    simp (disch := first | omega | assumption | rfl | (simp only [vcS] <;> omega) | fail) only [↓vcC, slc3_s, ↓ptV_l, ↓vcA, vcB, ↓vcD, vcE, ↓reduceIte, Nat.reduceEqDiff, Nat.reduceAdd, Nat.reduceMul, Nat.reduceLeDiff, Int.reduceLE, Int.reduceLT, Int.reduceEq, Int.reduceToNat, Int.reduceAdd, Int.reduceSub, Int.reduceMul, Int.reduceNeg, reduceCtorEq, Option.bind_some, Option.map_some, List.length_cons, List.length_nil, vcM, List.getElem?_toArray, List.getElem?_cons_zero, List.getElem?_cons_succ, l13', l12]
    (refine nx_at ?_; simp (disch := first | omega | assumption | rfl | (simp only [vcS] <;> omega) | fail) only [↓vcC, slc3_s, ↓ptV_l, ↓vcA, vcB, ↓vcD, vcE, ↓reduceIte, Nat.reduceEqDiff, Nat.reduceAdd, Nat.reduceMul, Nat.reduceLeDiff, Int.reduceLE, Int.reduceLT, Int.reduceEq, Int.reduceToNat, Int.reduceAdd, Int.reduceSub, Int.reduceMul, Int.reduceNeg, reduceCtorEq, Option.bind_some, Option.map_some, List.length_cons, List.length_nil, vcM, List.getElem?_toArray, List.getElem?_cons_zero, List.getElem?_cons_succ])
    (refine nx_at ?_; simp (disch := first | omega | assumption | rfl | (simp only [vcS] <;> omega) | fail) only [↓vcC, slc3_s, ↓ptV_l, ↓vcA, vcB, ↓vcD, vcE, ↓reduceIte, Nat.reduceEqDiff, Nat.reduceAdd, Nat.reduceMul, Nat.reduceLeDiff, Int.reduceLE, Int.reduceLT, Int.reduceEq, Int.reduceToNat, Int.reduceAdd, Int.reduceSub, Int.reduceMul, Int.reduceNeg, reduceCtorEq, Option.bind_some, Option.map_some, List.length_cons, List.length_nil, vcM, List.getElem?_toArray, List.getElem?_cons_zero, List.getElem?_cons_succ, l13', l11, hc0])
    (refine nx_at ?_; simp (disch := first | omega | assumption | rfl | (simp only [vcS] <;> omega) | fail) only [↓vcC, slc3_s, ↓ptV_l, ↓vcA, vcB, ↓vcD, vcE, ↓reduceIte, Nat.reduceEqDiff, Nat.reduceAdd, Nat.reduceMul, Nat.reduceLeDiff, Int.reduceLE, Int.reduceLT, Int.reduceEq, Int.reduceToNat, Int.reduceAdd, Int.reduceSub, Int.reduceMul, Int.reduceNeg, reduceCtorEq, Option.bind_some, Option.map_some, List.length_cons, List.length_nil, vcM, List.getElem?_toArray, List.getElem?_cons_zero, List.getElem?_cons_succ])
    (refine nx_at ?_; simp (disch := first | omega | assumption | rfl | (simp only [vcS] <;> omega) | fail) only [↓vcC, slc3_s, ↓ptV_l, ↓vcA, vcB, ↓vcD, vcE, ↓reduceIte, Nat.reduceEqDiff, Nat.reduceAdd, Nat.reduceMul, Nat.reduceLeDiff, Int.reduceLE, Int.reduceLT, Int.reduceEq, Int.reduceToNat, Int.reduceAdd, Int.reduceSub, Int.reduceMul, Int.reduceNeg, reduceCtorEq, Option.bind_some, Option.map_some, List.length_cons, List.length_nil, vcM, List.getElem?_toArray, List.getElem?_cons_zero, List.getElem?_cons_succ])
    (refine nx_at ?_; simp (disch := first | omega | assumption | rfl | (simp only [vcS] <;> omega) | fail) only [↓vcC, slc3_s, ↓ptV_l, ↓vcA, vcB, ↓vcD, vcE, ↓reduceIte, Nat.reduceEqDiff, Nat.reduceAdd, Nat.reduceMul, Nat.reduceLeDiff, Int.reduceLE, Int.reduceLT, Int.reduceEq, Int.reduceToNat, Int.reduceAdd, Int.reduceSub, Int.reduceMul, Int.reduceNeg, reduceCtorEq, Option.bind_some, Option.map_some, List.length_cons, List.length_nil, vcM, List.getElem?_toArray, List.getElem?_cons_zero, List.getElem?_cons_succ, l13', w1'])
    exact ⟨2, rfl, ⟨by decide, by decide⟩, rfl, l12, l11, l0⟩
  | 1, _ =>
    have l13' : Vc.look e 13 = some (.int .i64 2) := l13
    simp (disch := first | omega | assumption | rfl | (simp only [vcS] <;> omega) | fail) only [↓vcC, slc3_s, ↓ptV_l, ↓vcA, vcB, ↓vcD, vcE, ↓reduceIte, Nat.reduceEqDiff, Nat.reduceAdd, Nat.reduceMul, Nat.reduceLeDiff, Int.reduceLE, Int.reduceLT, Int.reduceEq, Int.reduceToNat, Int.reduceAdd, Int.reduceSub, Int.reduceMul, Int.reduceNeg, reduceCtorEq, Option.bind_some, Option.map_some, List.length_cons, List.length_nil, vcM, List.getElem?_toArray, List.getElem?_cons_zero, List.getElem?_cons_succ, l13', l12]
    (refine nx_at ?_; simp (disch := first | omega | assumption | rfl | (simp only [vcS] <;> omega) | fail) only [↓vcC, slc3_s, ↓ptV_l, ↓vcA, vcB, ↓vcD, vcE, ↓reduceIte, Nat.reduceEqDiff, Nat.reduceAdd, Nat.reduceMul, Nat.reduceLeDiff, Int.reduceLE, Int.reduceLT, Int.reduceEq, Int.reduceToNat, Int.reduceAdd, Int.reduceSub, Int.reduceMul, Int.reduceNeg, reduceCtorEq, Option.bind_some, Option.map_some, List.length_cons, List.length_nil, vcM, List.getElem?_toArray, List.getElem?_cons_zero, List.getElem?_cons_succ])
    (refine nx_at ?_; simp (disch := first | omega | assumption | rfl | (simp only [vcS] <;> omega) | fail) only [↓vcC, slc3_s, ↓ptV_l, ↓vcA, vcB, ↓vcD, vcE, ↓reduceIte, Nat.reduceEqDiff, Nat.reduceAdd, Nat.reduceMul, Nat.reduceLeDiff, Int.reduceLE, Int.reduceLT, Int.reduceEq, Int.reduceToNat, Int.reduceAdd, Int.reduceSub, Int.reduceMul, Int.reduceNeg, reduceCtorEq, Option.bind_some, Option.map_some, List.length_cons, List.length_nil, vcM, List.getElem?_toArray, List.getElem?_cons_zero, List.getElem?_cons_succ, l13', l11, hc2])
    (refine nx_at ?_; simp (disch := first | omega | assumption | rfl | (simp only [vcS] <;> omega) | fail) only [↓vcC, slc3_s, ↓ptV_l, ↓vcA, vcB, ↓vcD, vcE, ↓reduceIte, Nat.reduceEqDiff, Nat.reduceAdd, Nat.reduceMul, Nat.reduceLeDiff, Int.reduceLE, Int.reduceLT, Int.reduceEq, Int.reduceToNat, Int.reduceAdd, Int.reduceSub, Int.reduceMul, Int.reduceNeg, reduceCtorEq, Option.bind_some, Option.map_some, List.length_cons, List.length_nil, vcM, List.getElem?_toArray, List.getElem?_cons_zero, List.getElem?_cons_succ])
    (refine nx_at ?_; simp (disch := first | omega | assumption | rfl | (simp only [vcS] <;> omega) | fail) only [↓vcC, slc3_s, ↓ptV_l, ↓vcA, vcB, ↓vcD, vcE, ↓reduceIte, Nat.reduceEqDiff, Nat.reduceAdd, Nat.reduceMul, Nat.reduceLeDiff, Int.reduceLE, Int.reduceLT, Int.reduceEq, Int.reduceToNat, Int.reduceAdd, Int.reduceSub, Int.reduceMul, Int.reduceNeg, reduceCtorEq, Option.bind_some, Option.map_some, List.length_cons, List.length_nil, vcM, List.getElem?_toArray, List.getElem?_cons_zero, List.getElem?_cons_succ])
    (refine nx_at ?_; simp (disch := first | omega | assumption | rfl | (simp only [vcS] <;> omega) | fail) only [↓vcC, slc3_s, ↓ptV_l, ↓vcA, vcB, ↓vcD, vcE, ↓reduceIte, Nat.reduceEqDiff, Nat.reduceAdd, Nat.reduceMul, Nat.reduceLeDiff, Int.reduceLE, Int.reduceLT, Int.reduceEq, Int.reduceToNat, Int.reduceAdd, Int.reduceSub, Int.reduceMul, Int.reduceNeg, reduceCtorEq, Option.bind_some, Option.map_some, List.length_cons, List.length_nil, vcM, List.getElem?_toArray, List.getElem?_cons_zero, List.getElem?_cons_succ])
    have g0 : (strOf l58S)[0]? = some (UInt8.ofNat 49) := by decide +kernel
    have u0 : (((UInt8.ofNat 49).toNat : Nat) : Int) = 49 := by decide
    (refine nx_at ?_; simp (disch := first | omega | assumption | rfl | (simp only [vcS] <;> omega) | fail) only [↓vcC, slc3_s, ↓ptV_l, ↓vcA, vcB, ↓vcD, vcE, ↓reduceIte, Nat.reduceEqDiff, Nat.reduceAdd, Nat.reduceMul, Nat.reduceLeDiff, Int.reduceLE, Int.reduceLT, Int.reduceEq, Int.reduceToNat, Int.reduceAdd, Int.reduceSub, Int.reduceMul, Int.reduceNeg, reduceCtorEq, Option.bind_some, Option.map_some, List.length_cons, List.length_nil, vcM, List.getElem?_toArray, List.getElem?_cons_zero, List.getElem?_cons_succ, l58S_is, g0, u0])
    have hN1 : New W (W.alloc (.cells (bv [49]).toArray 5)) (.slice (some ⟨W.heap.size, 0, none⟩) 1 1) [49] := New.lit (bs := [49]) (by decide)
    refine callV_ret (repeat2_ok _ _ 49 hN1.own.rd) ?_
    rintro u w1 hF
    have hE1 := hN1.ext.ext hF.ext
    obtain ⟨g, cur, hu, hg, hlo⟩ := hF.is
    refine ⟨by rw [hu]; rfl, wr1_of (heap_new _ _ _ rfl) (by simp [size_zc]), ?_⟩
    have hz : zc [(1, Value.slice none 0 0)] = #[.slice none 0 0] := rfl
    rw [hz]
    have h6 : ((w1.alloc (.cells #[.slice none 0 0] 22)).setCell ⟨w1.heap.size, 0, none⟩ u).heap[w1.heap.size]? = some (.cells #[u] 22 (0, 0)) := by
      rw [heap_setCell_eq (heap_new _ _ _ rfl)]; rfl
    have hE2 : Ext w1 ((w1.alloc (.cells #[.slice none 0 0] 22)).setCell ⟨w1.heap.size, 0, none⟩ u) := ((Keep.refl _ w1).alloc _).setCell _ fun hh => by omega
    generalize World.setCell _ _ _ = w2 at h6 hE2 ⊢
    have hp6 := hE1.size
    generalize w1.heap.size = p6 at h6 hp6 ⊢
    have hr2 := (h.ext hE1).ext hE2
    (refine nx_at ?_; simp (disch := first | omega | assumption | rfl | (simp only [vcS] <;> omega) | fail) only [↓vcC, slc3_s, ↓ptV_l, ↓vcA, vcB, ↓vcD, vcE, ↓reduceIte, Nat.reduceEqDiff, Nat.reduceAdd, Nat.reduceMul, Nat.reduceLeDiff, Int.reduceLE, Int.reduceLT, Int.reduceEq, Int.reduceToNat, Int.reduceAdd, Int.reduceSub, Int.reduceMul, Int.reduceNeg, reduceCtorEq, Option.bind_some, Option.map_some, List.length_cons, List.length_nil, vcM, List.getElem?_toArray, List.getElem?_cons_zero, List.getElem?_cons_succ, l0])
    refine callV_ret (turned3_ok w2 _ 0 0 1 hr2) ?_
    rintro t27 w3 hT
    first | (simp (disch := first | omega | assumption | rfl | (simp only [vcS] <;> omega) | fail) only [↓vcC, slc3_s, ↓ptV_l, ↓vcA, vcB, ↓vcD, vcE, ↓reduceIte, Nat.reduceEqDiff, Nat.reduceAdd, Nat.reduceMul, Nat.reduceLeDiff, Int.reduceLE, Int.reduceLT, Int.reduceEq, Int.reduceToNat, Int.reduceAdd, Int.reduceSub, Int.reduceMul, Int.reduceNeg, reduceCtorEq, Option.bind_some, Option.map_some, List.length_cons, List.length_nil, vcM, List.getElem?_toArray, List.getElem?_cons_zero, List.getElem?_cons_succ]) | skip
    refine callV_ret (base_ok w3 t27 [1, 0, 0] hT.own (by intro x hx; simp at hx; omega) (by simp)) ?_
    rintro t28 w4 hB
    have hbF : baseF [1, 0, 0].reverse = [1] := by decide +kernel
    rw [hbF] at hB
    have hcell28 : t28.cells = #[t28] := by
      rcases hB.own.2 with ⟨rfl, _⟩ | ⟨_, _, _, rfl, _⟩ <;> rfl
    first | (simp (disch := first | omega | assumption | rfl | (simp only [vcS] <;> omega) | fail) only [↓vcC, slc3_s, ↓ptV_l, ↓vcA, vcB, ↓vcD, vcE, ↓reduceIte, Nat.reduceEqDiff, Nat.reduceAdd, Nat.reduceMul, Nat.reduceLeDiff, Int.reduceLE, Int.reduceLT, Int.reduceEq, Int.reduceToNat, Int.reduceAdd, Int.reduceSub, Int.reduceMul, Int.reduceNeg, reduceCtorEq, Option.bind_some, Option.map_some, List.length_cons, List.length_nil, vcM, List.getElem?_toArray, List.getElem?_cons_zero, List.getElem?_cons_succ]) | skip
    refine callV_ret (back_ok w4 t28 hcell28) ?_
    rintro _ w5 ⟨b1, T1, rfl, hm1, hE5, hl1, hl3, hT1⟩
    first | (simp (disch := first | omega | assumption | rfl | (simp only [vcS] <;> omega) | fail) only [↓vcC, slc3_s, ↓ptV_l, ↓vcA, vcB, ↓vcD, vcE, ↓reduceIte, Nat.reduceEqDiff, Nat.reduceAdd, Nat.reduceMul, Nat.reduceLeDiff, Int.reduceLE, Int.reduceLT, Int.reduceEq, Int.reduceToNat, Int.reduceAdd, Int.reduceSub, Int.reduceMul, Int.reduceNeg, reduceCtorEq, Option.bind_some, Option.map_some, List.length_cons, List.length_nil, vcM, List.getElem?_toArray, List.getElem?_cons_zero, List.getElem?_cons_succ]) | skip
    (refine nx_at ?_; simp (disch := first | omega | assumption | rfl | (simp only [vcS] <;> omega) | fail) only [↓vcC, slc3_s, ↓ptV_l, ↓vcA, vcB, ↓vcD, vcE, ↓reduceIte, Nat.reduceEqDiff, Nat.reduceAdd, Nat.reduceMul, Nat.reduceLeDiff, Int.reduceLE, Int.reduceLT, Int.reduceEq, Int.reduceToNat, Int.reduceAdd, Int.reduceSub, Int.reduceMul, Int.reduceNeg, reduceCtorEq, Option.bind_some, Option.map_some, List.length_cons, List.length_nil, vcM, List.getElem?_toArray, List.getElem?_cons_zero, List.getElem?_cons_succ])
    have hW5 : Ext w2 w5 := (hT.ext.ext hB.ext).ext hE5
    have h65 := hW5.at h6 (fun h => h)
    have hF5 := hF.rd.ext (hE2.ext hW5)
    have hg5 := (hE2.ext hW5).at hg (fun h => h)
    have hEw5 : Ext W w5 := (hE1.ext hE2).ext hW5
    have hst := back_stops w5 b1 t28 [1] T1 hm1 (hB.own.ext hE5) (by simp)
    have hbs : ∀ b ∈ b1 :: t28.ownBlock.toList, b < w5.heap.size := by
      intro b hb
      rcases List.mem_cons.1 hb with rfl | hb
      · exact hl1
      · have hbq : blk t28 b := by
          unfold Go.Proofs.blk
          cases ho : t28.ownBlock with
          | none => rw [ho] at hb; cases hb
          | some g => rw [ho] at hb; simp at hb; rw [hb]
        exact Nat.lt_of_lt_of_le (hB.own.lt hbq) hE5.size
    have h6b : ∀ b ∈ b1 :: t28.ownBlock.toList, b ≠ p6 := by
      intro b hb
      have h6l := lt_of_heap h6
      rcases List.mem_cons.1 hb with rfl | hb
      · have := hT.ext.size; have := hB.ext.size; omega
      · have hbq : blk t28 b := by
          unfold Go.Proofs.blk
          cases ho : t28.ownBlock with
          | none => rw [ho] at hb; cases hb
          | some g => rw [ho] at hb; simp at hb; rw [hb]
        have := hB.new b hbq
        have := hT.ext.size
        omega
    subst hu
    refine rg_of (b1 :: t28.ownBlock.toList) (by decide) _ _ _ _ _ _
      (fun (pre : List (Fin [(1 : Int)].length)) W' => Ext W W' ∧ w5.heap.size ≤ W'.heap.size ∧
        ((pre = [] ∧ W'.heap[p6]? = some (.cells #[.slice (some ⟨g, 0, none⟩) [(49 : Int), 49].length [(49 : Int), 49].length] 22 (0, 0)) ∧ W'.heap[g]? = some (.cells cur 5 (0, 0)) ∧ Rd W' (.slice (some ⟨g, 0, none⟩) [(49 : Int), 49].length [(49 : Int), 49].length) [49, 49]) ∨
         (pre.length = 1 ∧ ∃ v', W'.heap[p6]? = some (.cells #[v'] 22 (0, 0)) ∧ Own1 W' v' [49, 49, 50])))
      (fun _ _ _ => False)
      (fun t e1 W' => Vc.look e1 6 = some (.pointer (some ⟨p6, 0, none⟩)) ∧ Vc.look e1 8 = some (.int .u8 [(1 : Int)][t.val]))
      rfl rfl hbs hst (fun _ => rfl) ?_ ?_ ⟨hEw5, Nat.le_refl _, .inl ⟨rfl, h65, hg5, hF5⟩⟩ ?_ ?_ ?_ ?_ ?_
    · rintro pre W1 W2 row ⟨g1, g2, g3⟩ hgr hr
      refine ⟨g1.trans (keep_grow hgr hr) fun i hi hk => by have := hk.1; have := hEw5.size; omega, Nat.le_trans g2 hgr.size, ?_⟩
      rcases g3 with ⟨rfl, a1, a2, a3⟩ | ⟨a0, v', a1, a2⟩
      · refine .inl ⟨rfl, at_own hgr hr a1, at_own hgr hr a2, a3.keep (keep_grow hgr hr) fun q n c he hk => ?_⟩
        cases he
        obtain ⟨_, o', ho, hcc⟩ := hk
        rw [a2] at ho; cases ho; cases hcc
      · refine .inr ⟨a0, v', at_own hgr hr a1, a2.keep (keep_grow hgr hr) fun g' hgb hk => ?_⟩
        obtain ⟨_, o', ho, hcc⟩ := hk
        obtain ⟨cur', hcur⟩ := row_type a2 hgb
        rw [hcur] at ho; cases ho; cases hcc
    · rintro key pre W1 W2 row hFF hgr hr; exact hFF
    · rintro t e1 _ W1 W2 row hA hgr hr; exact hA
    · rintro l pre t W1 hI
      show ctV _ _ _ _ _ _ _ _ ((31, .int .u8 _) :: (30, .int .i64 _) :: _) _
      simp (disch := first | omega | assumption | rfl | (simp only [vcS] <;> omega) | fail) only [↓vcC, slc3_s, ↓ptV_l, ↓vcA, vcB, ↓vcD, vcE, ↓reduceIte, Nat.reduceEqDiff, Nat.reduceAdd, Nat.reduceMul, Nat.reduceLeDiff, Int.reduceLE, Int.reduceLT, Int.reduceEq, Int.reduceToNat, Int.reduceAdd, Int.reduceSub, Int.reduceMul, Int.reduceNeg, reduceCtorEq, Option.bind_some, Option.map_some, List.length_cons, List.length_nil, vcM, List.getElem?_toArray, List.getElem?_cons_zero, List.getElem?_cons_succ]
      exact ⟨KeepsFrom.refl _ _, fun _ _ => rfl, hI⟩
    · rintro l pre t e1 W1 hl hr ⟨g1, g2, g3⟩ ⟨l6, l8⟩ hlt
      have ht1 : [(1 : Int)][t.val] = 1 := by
        have := t.isLt
        match t with
        | ⟨0, _⟩ => rfl
      rw [ht1] at l8
      rcases g3 with ⟨rfl, a1, a2, a3⟩ | ⟨a0, _⟩
      · have g1' : (strOf l58S)[1]? = some (UInt8.ofNat 50) := by decide +kernel
        have u1' : (((UInt8.ofNat 50).toNat : Nat) : Int) = 50 := by decide
        simp (disch := first | omega | assumption | rfl | (simp only [vcS] <;> omega) | fail) only [↓vcC, slc3_s, ↓ptV_l, ↓vcA, vcB, ↓vcD, vcE, ↓reduceIte, Nat.reduceEqDiff, Nat.reduceAdd, Nat.reduceMul, Nat.reduceLeDiff, Int.reduceLE, Int.reduceLT, Int.reduceEq, Int.reduceToNat, Int.reduceAdd, Int.reduceSub, Int.reduceMul, Int.reduceNeg, reduceCtorEq, Option.bind_some, Option.map_some, List.length_cons, List.length_nil, vcM, List.getElem?_toArray, List.getElem?_cons_zero, List.getElem?_cons_succ, l6, l8, a1, l58S_is, g1', u1']
        have a1d : W1.drew.heap[p6]? = some (.cells #[.slice (some ⟨g, 0, none⟩) 2 2] 22 (0, 0)) := a1
        refine ⟨by rw [heap_old _ _ _ (Nat.ne_of_lt (lt_of_heap a1d)), a1d]; rfl, ?_⟩
        have hlg : W.heap.size ≤ g := by rw [size_alloc] at hlo; omega
        have hFd : Full W W1.drew (.slice (some ⟨g, 0, none⟩) 2 2) [49, 49] := ⟨⟨g, cur, rfl, a2, hlg⟩, a3.ext ((Keep.refl _ W1).drew), g1.ext ((Keep.refl _ W1).drew)⟩
        refine appFull hFd (by simp) fun v2 W2 n2 e2 f2 => ?_
        have a6 := e2.at a1d (fun h => h)
        have kk : Keep (fun i => i = p6) W2 (W2.setCell ⟨p6, 0, none⟩ v2) := (Keep.refl _ W2).setCell _ fun _ => rfl
        have kd : Keep (fun i => i = p6) W1 W1.drew := (Keep.refl _ W1).drew
        have kw : Keep (fun i => i = p6) W1 (W2.setCell ⟨p6, 0, none⟩ v2) := (kd.ext e2).trans kk fun _ _ h => h
        have hp6' : W.heap.size ≤ p6 := hp6
        refine ⟨one_row n2.own, wr1_of a6 (by simp), keepsFrom_of kw (fun k hk o ho => by subst hk; rw [a1] at ho; cases ho; rfl), fun b' hb' => kw.block b' (Nat.lt_of_lt_of_le (hbs b' hb') g2) (h6b b' hb'), n2.ext.trans kk (fun i hi e => by have e' : i = p6 := e; omega), Nat.le_trans g2 e2.size, .inr ⟨rfl, v2, by rw [heap_setCell_eq a6]; rfl, n2.own.keep kk fun g' hg' e => ?_⟩⟩
        have e' : g' = p6 := e
        have := f2 g' hg'
        have : p6 < W1.drew.heap.size := lt_of_heap a1d
        omega
      · have h1 : [(1 : Int)].length = 1 := rfl
        omega
    · rintro D xs W1 hDD rfl ⟨g1, g2, g3⟩ hDK
      rcases g3 with ⟨h0, _⟩ | ⟨_, v', a1, a2⟩
      · exact absurd h0 (by decide)
      have hs := a2.rd.b2s
      (refine nx_at ?_; simp (disch := first | omega | assumption | rfl | (simp only [vcS] <;> omega) | fail) only [↓vcC, slc3_s, ↓ptV_l, ↓vcA, vcB, ↓vcD, vcE, ↓reduceIte, Nat.reduceEqDiff, Nat.reduceAdd, Nat.reduceMul, Nat.reduceLeDiff, Int.reduceLE, Int.reduceLT, Int.reduceEq, Int.reduceToNat, Int.reduceAdd, Int.reduceSub, Int.reduceMul, Int.reduceNeg, reduceCtorEq, Option.bind_some, Option.map_some, List.length_cons, List.length_nil, vcM, List.getElem?_toArray, List.getElem?_cons_zero, List.getElem?_cons_succ, a1, hs])
      (refine nx_at ?_; simp (disch := first | omega | assumption | rfl | (simp only [vcS] <;> omega) | fail) only [↓vcC, slc3_s, ↓ptV_l, ↓vcA, vcB, ↓vcD, vcE, ↓reduceIte, Nat.reduceEqDiff, Nat.reduceAdd, Nat.reduceMul, Nat.reduceLeDiff, Int.reduceLE, Int.reduceLT, Int.reduceEq, Int.reduceToNat, Int.reduceAdd, Int.reduceSub, Int.reduceMul, Int.reduceNeg, reduceCtorEq, Option.bind_some, Option.map_some, List.length_cons, List.length_nil, vcM, List.getElem?_toArray, List.getElem?_cons_zero, List.getElem?_cons_succ])
      refine lvV_cons hDK ?_
      simp (disch := first | omega | assumption | rfl | (simp only [vcS] <;> omega) | fail) only [↓vcC, slc3_s, ↓ptV_l, ↓vcA, vcB, ↓vcD, vcE, ↓reduceIte, Nat.reduceEqDiff, Nat.reduceAdd, Nat.reduceMul, Nat.reduceLeDiff, Int.reduceLE, Int.reduceLT, Int.reduceEq, Int.reduceToNat, Int.reduceAdd, Int.reduceSub, Int.reduceMul, Int.reduceNeg, reduceCtorEq, Option.bind_some, Option.map_some, List.length_cons, List.length_nil, vcM, List.getElem?_toArray, List.getElem?_cons_zero, List.getElem?_cons_succ, Ret_returned]
      have hkD : Keep (fun k => k = D) W1 (W1.putObj D (.deferred none)) := (Keep.refl _ W1).grown (grownBy_putObj' W1 D _) (fun k _ h => by cases h; rfl)
      exact g1.trans hkD fun k hk e => by
        have e' : k = D := e
        have := hEw5.size
        have := hDD
        omega
    · rintro D key pre W1 hDD hS hFF hDK
      exact hFF.elim
end Go.Proofs
namespace Go.Proofs
open Go.Vc
set_option maxRecDepth 10000

def rawS : List Int := [114, 97, 119, 40, 100, 101, 97, 100, 98, 101, 101, 102, 41]
theorem rawS_is : (⟨#[114, 97, 119, 40, 100, 101, 97, 100, 98, 101, 101, 102, 41]⟩ : ByteArray) = strOf rawS := by decide +kernel
theorem rawS_sum : checkF rawS = some [56, 57, 102, 56, 115, 112, 120, 109] := by decide +kernel
theorem awake_ok (w : World) : Calls Tryd.prog 7 #[] w (Ret fun u w' => u = .bool true ∧ Ext w w') := by
  refine calls_of_cfg c7_ok (Nat.le_of_ble_eq_true rfl) ?_
  simp only [argE_nil, argE_cons, Nat.reduceAdd, Nat.zero_add]
  (refine W_at c7_ok ?_; refine ⟨_, rfl, ?_⟩; simp (disch := first | omega | assumption | rfl | (simp only [vcS] <;> omega) | fail) only [↓ptV_l, ↓vcA, vcB, ↓vcD, vcE, ↓reduceIte, Nat.reduceEqDiff, Nat.reduceAdd, Nat.reduceMul, Nat.reduceLeDiff, Int.reduceLE, Int.reduceLT, Int.reduceEq, Int.reduceToNat, Int.reduceAdd, Int.reduceSub, Int.reduceMul, Int.reduceNeg, reduceCtorEq, Option.bind_some, Option.map_some, List.length_cons, List.length_nil, vcM, List.getElem?_toArray, List.getElem?_cons_zero, List.getElem?_cons_succ])
  (refine W_at c7_ok ?_; refine ⟨_, rfl, ?_⟩; simp (disch := first | omega | assumption | rfl | (simp only [vcS] <;> omega) | fail) only [↓ptV_l, ↓vcA, vcB, ↓vcD, vcE, ↓reduceIte, Nat.reduceEqDiff, Nat.reduceAdd, Nat.reduceMul, Nat.reduceLeDiff, Int.reduceLE, Int.reduceLT, Int.reduceEq, Int.reduceToNat, Int.reduceAdd, Int.reduceSub, Int.reduceMul, Int.reduceNeg, reduceCtorEq, Option.bind_some, Option.map_some, List.length_cons, List.length_nil, vcM, List.getElem?_toArray, List.getElem?_cons_zero, List.getElem?_cons_succ, rawS_is])
  refine callV_ret (checksum_ok w rawS (by intro x hx; simp [rawS] at hx; omega) (by decide)) ?_
  rintro _ w1 ⟨rfl, hE1⟩
  rw [rawS_sum, if_neg (by simp)]
  have d1 : strOf ((some [56, 57, 102, 56, 115, 112, 120, 109] : Option (List Int)).getD []) = (⟨#[56, 57, 102, 56, 115, 112, 120, 109]⟩ : ByteArray) := by decide +kernel
  have d2 : strOf [49, 49, 50] = (⟨#[49, 49, 50]⟩ : ByteArray) := by decide +kernel
  have d3 : strOf (hexL [10]) = (⟨#[48, 97]⟩ : ByteArray) := by decide +kernel
  simp (disch := first | omega | assumption | rfl | (simp only [vcS] <;> omega) | fail) only [↓ptV_l, ↓vcA, vcB, ↓vcD, vcE, ↓reduceIte, Nat.reduceEqDiff, Nat.reduceAdd, Nat.reduceMul, Nat.reduceLeDiff, Int.reduceLE, Int.reduceLT, Int.reduceEq, Int.reduceToNat, Int.reduceAdd, Int.reduceSub, Int.reduceMul, Int.reduceNeg, reduceCtorEq, Option.bind_some, Option.map_some, List.length_cons, List.length_nil, vcM, List.getElem?_toArray, List.getElem?_cons_zero, List.getElem?_cons_succ]
  (refine W_at c7_ok ?_; refine ⟨_, rfl, ?_⟩; simp (disch := first | omega | assumption | rfl | (simp only [vcS] <;> omega) | fail) only [↓ptV_l, ↓vcA, vcB, ↓vcD, vcE, ↓reduceIte, Nat.reduceEqDiff, Nat.reduceAdd, Nat.reduceMul, Nat.reduceLeDiff, Int.reduceLE, Int.reduceLT, Int.reduceEq, Int.reduceToNat, Int.reduceAdd, Int.reduceSub, Int.reduceMul, Int.reduceNeg, reduceCtorEq, Option.bind_some, Option.map_some, List.length_cons, List.length_nil, vcM, List.getElem?_toArray, List.getElem?_cons_zero, List.getElem?_cons_succ])
  have hN1 : New w1 (w1.alloc (.cells (bv [0, 0, 1]).toArray 5)) (.slice (some ⟨w1.heap.size, 0, none⟩) 3 3) [0, 0, 1] := New.lit (bs := [0, 0, 1]) (by decide)
  refine callV_ret (base58_aw _ _ hN1.own.rd) ?_
  rintro _ w2 ⟨rfl, hE2⟩
  simp (disch := first | omega | assumption | rfl | (simp only [vcS] <;> omega) | fail) only [↓ptV_l, ↓vcA, vcB, ↓vcD, vcE, ↓reduceIte, Nat.reduceEqDiff, Nat.reduceAdd, Nat.reduceMul, Nat.reduceLeDiff, Int.reduceLE, Int.reduceLT, Int.reduceEq, Int.reduceToNat, Int.reduceAdd, Int.reduceSub, Int.reduceMul, Int.reduceNeg, reduceCtorEq, Option.bind_some, Option.map_some, List.length_cons, List.length_nil, vcM, List.getElem?_toArray, List.getElem?_cons_zero, List.getElem?_cons_succ, d2]
  refine ⟨fun _ => ?_, fun h => absurd d1 h⟩
  have hN2 : New w2 (w2.alloc (.cells (bv [10]).toArray 5)) (.slice (some ⟨w2.heap.size, 0, none⟩) 1 1) [10] := New.lit (bs := [10]) (by decide)
  refine callV_ret (hex_ok _ _ [10] hN2.own.rd (by intro x hx; simp at hx; omega) (by decide)) ?_
  rintro _ w3 ⟨rfl, hE3⟩
  simp (disch := first | omega | assumption | rfl | (simp only [vcS] <;> omega) | fail) only [↓ptV_l, ↓vcA, vcB, ↓vcD, vcE, ↓reduceIte, Nat.reduceEqDiff, Nat.reduceAdd, Nat.reduceMul, Nat.reduceLeDiff, Int.reduceLE, Int.reduceLT, Int.reduceEq, Int.reduceToNat, Int.reduceAdd, Int.reduceSub, Int.reduceMul, Int.reduceNeg, reduceCtorEq, Option.bind_some, Option.map_some, List.length_cons, List.length_nil, vcM, List.getElem?_toArray, List.getElem?_cons_zero, List.getElem?_cons_succ, d3]
  (refine W_at c7_ok ?_; refine ⟨_, rfl, ?_⟩; simp (disch := first | omega | assumption | rfl | (simp only [vcS] <;> omega) | fail) only [↓ptV_l, ↓vcA, vcB, ↓vcD, vcE, ↓reduceIte, Nat.reduceEqDiff, Nat.reduceAdd, Nat.reduceMul, Nat.reduceLeDiff, Int.reduceLE, Int.reduceLT, Int.reduceEq, Int.reduceToNat, Int.reduceAdd, Int.reduceSub, Int.reduceMul, Int.reduceNeg, reduceCtorEq, Option.bind_some, Option.map_some, List.length_cons, List.length_nil, vcM, List.getElem?_toArray, List.getElem?_cons_zero, List.getElem?_cons_succ, Ret_returned])
  exact ((hE1.ext hN1.ext).ext hE2).ext (hN2.ext.ext hE3)
end Go.Proofs
namespace Go.Proofs
open Go.Vc
set_option maxRecDepth 10000

/-! ### The letters tell the value -/
theorem letters_b (c : BitVec 64) (n : Nat) : ∀ x ∈ lettersF c n, 0 ≤ x ∧ x ≤ 31 := fun x hx => by
  obtain ⟨j, _, rfl⟩ := List.mem_map.1 hx
  have := and31_lt (c >>> (5 * (n - 1 - j)))
  omega
end Go.Proofs
namespace Go.Proofs
open Go.Vc
set_option maxRecDepth 10000

theorem rplace_ok (w : World) (bs : List Int) (c : Int) (hb : byt bs) (hl : bs.length ≤ 100000) :
    Calls Tryd.prog 35 #[.string (strOf bs), .int .u8 c] w (Ret fun u w' => u = .int .i64 (placeF c bs 0) ∧ w' = w) := by
  refine calls_of_cfg c35_ok (Nat.le_of_ble_eq_true rfl) ?_
  simp only [argE_nil, argE_cons, Nat.reduceAdd, Nat.zero_add]
  have hsz := str_size bs
  (refine W_at c35_ok ?_; refine ⟨_, rfl, ?_⟩; simp (disch := first | omega | assumption | rfl | (simp only [vcS] <;> omega) | fail) only [↓ptV_l, ↓vcA, vcB, ↓vcD, vcE, ↓reduceIte, Nat.reduceEqDiff, Nat.reduceAdd, Nat.reduceMul, Nat.reduceLeDiff, Int.reduceLE, Int.reduceLT, Int.reduceEq, Int.reduceToNat, Int.reduceAdd, Int.reduceSub, Int.reduceMul, Int.reduceNeg, reduceCtorEq, Option.bind_some, Option.map_some, List.length_cons, List.length_nil, vcM, List.getElem?_toArray, List.getElem?_cons_zero, List.getElem?_cons_succ])
  (refine W_at c35_ok ?_; refine ⟨_, rfl, ?_⟩; simp (disch := first | omega | assumption | rfl | (simp only [vcS] <;> omega) | fail) only [↓ptV_l, ↓vcA, vcB, ↓vcD, vcE, ↓reduceIte, Nat.reduceEqDiff, Nat.reduceAdd, Nat.reduceMul, Nat.reduceLeDiff, Int.reduceLE, Int.reduceLT, Int.reduceEq, Int.reduceToNat, Int.reduceAdd, Int.reduceSub, Int.reduceMul, Int.reduceNeg, reduceCtorEq, Option.bind_some, Option.map_some, List.length_cons, List.length_nil, vcM, List.getElem?_toArray, List.getElem?_cons_zero, List.getElem?_cons_succ])
  have L : ∀ (k i : Nat) (tl : Env), k + i = bs.length → placeF c bs 0 = placeF c (bs.drop i) i →
      W Tryd.prog (Ret fun u w' => u = .int .i64 (placeF c bs 0) ∧ w' = w) 35 10 ((0, .string (strOf bs)) :: (1, .int .u8 c) :: (5, .int .i64 i) :: tl) w := by
    intro k
    induction k with
    | zero =>
      intro i tl hi hp
      have hil : ¬ ((i : Int) < (bs.length : Int)) := by omega
      rw [List.drop_eq_nil_of_le (by omega), placeF] at hp
      (refine W_at c35_ok ?_; refine ⟨_, rfl, ?_⟩; simp (disch := first | omega | assumption | rfl | (simp only [vcS] <;> omega) | fail) only [↓ptV_l, ↓vcA, vcB, ↓vcD, vcE, ↓reduceIte, Nat.reduceEqDiff, Nat.reduceAdd, Nat.reduceMul, Nat.reduceLeDiff, Int.reduceLE, Int.reduceLT, Int.reduceEq, Int.reduceToNat, Int.reduceAdd, Int.reduceSub, Int.reduceMul, Int.reduceNeg, reduceCtorEq, Option.bind_some, Option.map_some, List.length_cons, List.length_nil, vcM, List.getElem?_toArray, List.getElem?_cons_zero, List.getElem?_cons_succ, hsz, hil])
      (refine W_at c35_ok ?_; refine ⟨_, rfl, ?_⟩; simp (disch := first | omega | assumption | rfl | (simp only [vcS] <;> omega) | fail) only [↓ptV_l, ↓vcA, vcB, ↓vcD, vcE, ↓reduceIte, Nat.reduceEqDiff, Nat.reduceAdd, Nat.reduceMul, Nat.reduceLeDiff, Int.reduceLE, Int.reduceLT, Int.reduceEq, Int.reduceToNat, Int.reduceAdd, Int.reduceSub, Int.reduceMul, Int.reduceNeg, reduceCtorEq, Option.bind_some, Option.map_some, List.length_cons, List.length_nil, vcM, List.getElem?_toArray, List.getElem?_cons_zero, List.getElem?_cons_succ])
      (refine W_at c35_ok ?_; refine ⟨_, rfl, ?_⟩; simp (disch := first | omega | assumption | rfl | (simp only [vcS] <;> omega) | fail) only [↓ptV_l, ↓vcA, vcB, ↓vcD, vcE, ↓reduceIte, Nat.reduceEqDiff, Nat.reduceAdd, Nat.reduceMul, Nat.reduceLeDiff, Int.reduceLE, Int.reduceLT, Int.reduceEq, Int.reduceToNat, Int.reduceAdd, Int.reduceSub, Int.reduceMul, Int.reduceNeg, reduceCtorEq, Option.bind_some, Option.map_some, List.length_cons, List.length_nil, vcM, List.getElem?_toArray, List.getElem?_cons_zero, List.getElem?_cons_succ])
      (refine W_at c35_ok ?_; refine ⟨_, rfl, ?_⟩; simp (disch := first | omega | assumption | rfl | (simp only [vcS] <;> omega) | fail) only [↓ptV_l, ↓vcA, vcB, ↓vcD, vcE, ↓reduceIte, Nat.reduceEqDiff, Nat.reduceAdd, Nat.reduceMul, Nat.reduceLeDiff, Int.reduceLE, Int.reduceLT, Int.reduceEq, Int.reduceToNat, Int.reduceAdd, Int.reduceSub, Int.reduceMul, Int.reduceNeg, reduceCtorEq, Option.bind_some, Option.map_some, List.length_cons, List.length_nil, vcM, List.getElem?_toArray, List.getElem?_cons_zero, List.getElem?_cons_succ, Ret_returned])
      rw [hp]
    | succ k ih =>
      intro i tl hi hp
      have hil : (i : Int) < (bs.length : Int) := by omega
      have h0 : 0 ≤ (i : Int) := by omega
      have hwi : IntKind.i64.wrap ((i : Int) + 1) = ((i + 1 : Nat) : Int) := wrap_i64 (by omega) (by omega)
      have g1 := str_get (bs := bs) (i := i) (by omega)
      have u1 := u8i (hb bs[i] (List.getElem_mem _))
      rw [List.drop_eq_getElem_cons (by omega), placeF] at hp
      (refine W_at c35_ok ?_; refine ⟨_, rfl, ?_⟩; simp (disch := first | omega | assumption | rfl | (simp only [vcS] <;> omega) | fail) only [↓ptV_l, ↓vcA, vcB, ↓vcD, vcE, ↓reduceIte, Nat.reduceEqDiff, Nat.reduceAdd, Nat.reduceMul, Nat.reduceLeDiff, Int.reduceLE, Int.reduceLT, Int.reduceEq, Int.reduceToNat, Int.reduceAdd, Int.reduceSub, Int.reduceMul, Int.reduceNeg, reduceCtorEq, Option.bind_some, Option.map_some, List.length_cons, List.length_nil, vcM, List.getElem?_toArray, List.getElem?_cons_zero, List.getElem?_cons_succ, hsz, hil])
      (refine W_at c35_ok ?_; refine ⟨_, rfl, ?_⟩; simp (disch := first | omega | assumption | rfl | (simp only [vcS] <;> omega) | fail) only [↓ptV_l, ↓vcA, vcB, ↓vcD, vcE, ↓reduceIte, Nat.reduceEqDiff, Nat.reduceAdd, Nat.reduceMul, Nat.reduceLeDiff, Int.reduceLE, Int.reduceLT, Int.reduceEq, Int.reduceToNat, Int.reduceAdd, Int.reduceSub, Int.reduceMul, Int.reduceNeg, reduceCtorEq, Option.bind_some, Option.map_some, List.length_cons, List.length_nil, vcM, List.getElem?_toArray, List.getElem?_cons_zero, List.getElem?_cons_succ])
      generalize bs[i] = x at *
      by_cases hx : x = c
      · have hd : decide (x = c) = true := decide_eq_true hx
        rw [if_pos hx] at hp
        (refine W_at c35_ok ?_; refine ⟨_, rfl, ?_⟩; simp (disch := first | omega | assumption | rfl | (simp only [vcS] <;> omega) | fail) only [↓ptV_l, ↓vcA, vcB, ↓vcD, vcE, ↓reduceIte, Nat.reduceEqDiff, Nat.reduceAdd, Nat.reduceMul, Nat.reduceLeDiff, Int.reduceLE, Int.reduceLT, Int.reduceEq, Int.reduceToNat, Int.reduceAdd, Int.reduceSub, Int.reduceMul, Int.reduceNeg, reduceCtorEq, Option.bind_some, Option.map_some, List.length_cons, List.length_nil, vcM, List.getElem?_toArray, List.getElem?_cons_zero, List.getElem?_cons_succ, h0, Int.toNat_natCast, g1, u1, hd])
        (refine W_at c35_ok ?_; refine ⟨_, rfl, ?_⟩; simp (disch := first | omega | assumption | rfl | (simp only [vcS] <;> omega) | fail) only [↓ptV_l, ↓vcA, vcB, ↓vcD, vcE, ↓reduceIte, Nat.reduceEqDiff, Nat.reduceAdd, Nat.reduceMul, Nat.reduceLeDiff, Int.reduceLE, Int.reduceLT, Int.reduceEq, Int.reduceToNat, Int.reduceAdd, Int.reduceSub, Int.reduceMul, Int.reduceNeg, reduceCtorEq, Option.bind_some, Option.map_some, List.length_cons, List.length_nil, vcM, List.getElem?_toArray, List.getElem?_cons_zero, List.getElem?_cons_succ])
        (refine W_at c35_ok ?_; refine ⟨_, rfl, ?_⟩; simp (disch := first | omega | assumption | rfl | (simp only [vcS] <;> omega) | fail) only [↓ptV_l, ↓vcA, vcB, ↓vcD, vcE, ↓reduceIte, Nat.reduceEqDiff, Nat.reduceAdd, Nat.reduceMul, Nat.reduceLeDiff, Int.reduceLE, Int.reduceLT, Int.reduceEq, Int.reduceToNat, Int.reduceAdd, Int.reduceSub, Int.reduceMul, Int.reduceNeg, reduceCtorEq, Option.bind_some, Option.map_some, List.length_cons, List.length_nil, vcM, List.getElem?_toArray, List.getElem?_cons_zero, List.getElem?_cons_succ])
        (refine W_at c35_ok ?_; refine ⟨_, rfl, ?_⟩; simp (disch := first | omega | assumption | rfl | (simp only [vcS] <;> omega) | fail) only [↓ptV_l, ↓vcA, vcB, ↓vcD, vcE, ↓reduceIte, Nat.reduceEqDiff, Nat.reduceAdd, Nat.reduceMul, Nat.reduceLeDiff, Int.reduceLE, Int.reduceLT, Int.reduceEq, Int.reduceToNat, Int.reduceAdd, Int.reduceSub, Int.reduceMul, Int.reduceNeg, reduceCtorEq, Option.bind_some, Option.map_some, List.length_cons, List.length_nil, vcM, List.getElem?_toArray, List.getElem?_cons_zero, List.getElem?_cons_succ, Ret_returned])
        rw [hp]
      · have hd : decide (x = c) = false := decide_eq_false hx
        rw [if_neg hx] at hp
        (refine W_at c35_ok ?_; refine ⟨_, rfl, ?_⟩; simp (disch := first | omega | assumption | rfl | (simp only [vcS] <;> omega) | fail) only [↓ptV_l, ↓vcA, vcB, ↓vcD, vcE, ↓reduceIte, Nat.reduceEqDiff, Nat.reduceAdd, Nat.reduceMul, Nat.reduceLeDiff, Int.reduceLE, Int.reduceLT, Int.reduceEq, Int.reduceToNat, Int.reduceAdd, Int.reduceSub, Int.reduceMul, Int.reduceNeg, reduceCtorEq, Option.bind_some, Option.map_some, List.length_cons, List.length_nil, vcM, List.getElem?_toArray, List.getElem?_cons_zero, List.getElem?_cons_succ, h0, Int.toNat_natCast, g1, u1, hd])
        (refine W_at c35_ok ?_; refine ⟨_, rfl, ?_⟩; simp (disch := first | omega | assumption | rfl | (simp only [vcS] <;> omega) | fail) only [↓ptV_l, ↓vcA, vcB, ↓vcD, vcE, ↓reduceIte, Nat.reduceEqDiff, Nat.reduceAdd, Nat.reduceMul, Nat.reduceLeDiff, Int.reduceLE, Int.reduceLT, Int.reduceEq, Int.reduceToNat, Int.reduceAdd, Int.reduceSub, Int.reduceMul, Int.reduceNeg, reduceCtorEq, Option.bind_some, Option.map_some, List.length_cons, List.length_nil, vcM, List.getElem?_toArray, List.getElem?_cons_zero, List.getElem?_cons_succ])
        (refine W_at c35_ok ?_; refine ⟨_, rfl, ?_⟩; simp (disch := first | omega | assumption | rfl | (simp only [vcS] <;> omega) | fail) only [↓ptV_l, ↓vcA, vcB, ↓vcD, vcE, ↓reduceIte, Nat.reduceEqDiff, Nat.reduceAdd, Nat.reduceMul, Nat.reduceLeDiff, Int.reduceLE, Int.reduceLT, Int.reduceEq, Int.reduceToNat, Int.reduceAdd, Int.reduceSub, Int.reduceMul, Int.reduceNeg, reduceCtorEq, Option.bind_some, Option.map_some, List.length_cons, List.length_nil, vcM, List.getElem?_toArray, List.getElem?_cons_zero, List.getElem?_cons_succ, hwi])
        (refine W_at c35_ok ?_; refine ⟨_, rfl, ?_⟩; simp (disch := first | omega | assumption | rfl | (simp only [vcS] <;> omega) | fail) only [↓ptV_l, ↓vcA, vcB, ↓vcD, vcE, ↓reduceIte, Nat.reduceEqDiff, Nat.reduceAdd, Nat.reduceMul, Nat.reduceLeDiff, Int.reduceLE, Int.reduceLT, Int.reduceEq, Int.reduceToNat, Int.reduceAdd, Int.reduceSub, Int.reduceMul, Int.reduceNeg, reduceCtorEq, Option.bind_some, Option.map_some, List.length_cons, List.length_nil, vcM, List.getElem?_toArray, List.getElem?_cons_zero, List.getElem?_cons_succ])
        exact ih (i + 1) _ (by omega) hp
  exact L bs.length 0 _ (by omega) rfl

theorem U64_mul32 (y : BitVec 64) : binR .mul (U64 y) (.int .u64 32) = some (U64 (y * 32#64)) := U64_mul y 32#64
theorem U64_quo2 (y : BitVec 64) : binR .quo (U64 y) (.int .u64 2) = some (U64 (y / 2#64)) := U64_quo y 2#64 (by decide)
theorem U64_rem2 (y : BitVec 64) : binR .rem (U64 y) (.int .u64 2) = some (U64 (y % 2#64)) := U64_rem y 2#64 (by decide)
theorem U64_rem32 (y : BitVec 64) : binR .rem (U64 y) (.int .u64 32) = some (U64 (y % 32#64)) := U64_rem y 32#64 (by decide)
theorem half_is (y : BitVec 64) (j : Nat) : (y >>> j) / 2#64 = y >>> (j + 1) := by
  apply BitVec.eq_of_toNat_eq
  rw [BitVec.toNat_udiv, BitVec.toNat_ushiftRight, BitVec.toNat_ushiftRight, Nat.shiftRight_add]
  have e2 : (2#64).toNat = 2 := by decide
  rw [e2, Nat.shiftRight_eq_div_pow _ 1]
theorem odd_is (y : BitVec 64) : (y % 2#64 = 1#64) ↔ (y &&& 1#64 = 1#64) := by
  have e : y % 2#64 = y &&& 1#64 := by
    apply BitVec.eq_of_toNat_eq
    rw [BitVec.toNat_umod, BitVec.toNat_and]
    exact (Nat.and_two_pow_sub_one_eq_mod _ 1).symm
  rw [e]
theorem u64_int {v : Int} (h : 0 ≤ v ∧ v < 256) : Value.int .u64 (IntKind.u64.wrap v) = U64 (b64 v) := u64_byte (by omega)
end Go.Proofs
namespace Go.Proofs
open Go.Vc
set_option maxRecDepth 10000

theorem idxS_U (s : ByteArray) (y : BitVec 64) : idxSR (.string s) (U64 y) = (s[y.toNat]?).map fun b => .int .u8 b.toNat := by simp [U64, idxSR]
theorem rem32_is (y : BitVec 64) : (y % 32#64).toNat = (y &&& 31#64).toNat := by
  rw [BitVec.toNat_umod, BitVec.toNat_and]
  exact (Nat.and_two_pow_sub_one_eq_mod _ 5).symm
theorem concat_fits {a b : List Int} (h : a.length + b.length ≤ 1000000) : ((((strOf a).size + (strOf b).size : Nat) : Int) > IntKind.i64.max) = False := by
  rw [str_size, str_size]
  refine eq_false ?_
  show ¬ ((a.length + b.length : Nat) : Int) > 9223372036854775807
  omega
end Go.Proofs
namespace Go.Proofs
open Go.Vc
set_option maxRecDepth 10000

/-- What bits mean, the highest first. -/
def valB (l : List Int) : Int := l.foldl (fun a b => 2 * a + b) 0
def bit (l : List Int) : Prop := ∀ x ∈ l, x = 0 ∨ x = 1
/-- A value's bits, the highest first. -/
def bitsV : Nat → Int → List Int
  | 0, _ => []
  | n + 1, v => (v / 2 ^ n % 2) :: bitsV n v
def bitsF (n : Nat) (l : List Int) : List Int := l.flatMap (bitsV n)
/-- Groups, and what is left. -/
def grpF (to : Nat) : Nat → List Int → List Int × List Int
  | 0, P => ([], P)
  | k + 1, P => if to ≤ P.length then ((valB (P.take to)) :: (grpF to k (P.drop to)).1, (grpF to k (P.drop to)).2) else ([], P)
def groups (to : Nat) (P : List Int) : List Int × List Int := grpF to P.length P
theorem grpF_more {to : Nat} (ht : 0 < to) : ∀ (k m : Nat) (P : List Int), P.length ≤ k → P.length ≤ m → grpF to k P = grpF to m P
  | 0, 0, _, _, _ => rfl
  | 0, m + 1, P, h, _ => by
    have : P = [] := List.eq_nil_of_length_eq_zero (by omega)
    subst this
    rw [grpF, grpF, if_neg (by simp; omega)]
  | k + 1, 0, P, _, h => by
    have : P = [] := List.eq_nil_of_length_eq_zero (by omega)
    subst this
    rw [grpF, grpF, if_neg (by simp; omega)]
  | k + 1, m + 1, P, h1, h2 => by
    rw [grpF, grpF]
    by_cases h : to ≤ P.length
    · rw [if_pos h, if_pos h, grpF_more ht k m (P.drop to) (by rw [List.length_drop]; omega) (by rw [List.length_drop]; omega)]
    · rw [if_neg h, if_neg h]
theorem groups_ge {to : Nat} (ht : 0 < to) {P : List Int} (h : to ≤ P.length) : groups to P = (valB (P.take to) :: (groups to (P.drop to)).1, (groups to (P.drop to)).2) := by
  unfold groups
  have e : groups to P = grpF to ((P.drop to).length + to) P := grpF_more ht _ _ P (Nat.le_refl _) (by rw [List.length_drop]; omega)
  have e2 : (P.drop to).length + to = ((P.drop to).length + (to - 1)) + 1 := by omega
  unfold groups at e
  rw [e, e2, grpF, if_pos h, grpF_more ht _ (P.drop to).length (P.drop to) (by omega) (Nat.le_refl _)]
theorem groups_lt {to : Nat} {P : List Int} (h : P.length < to) : groups to P = ([], P) := by
  unfold groups
  cases hl : P.length with
  | zero => rfl
  | succ n => rw [grpF, if_neg (by omega)]
theorem groups_app {to : Nat} (ht : 0 < to) : ∀ (n : Nat) (P Q : List Int), P.length ≤ n → groups to (P ++ Q) = ((groups to P).1 ++ (groups to ((groups to P).2 ++ Q)).1, (groups to ((groups to P).2 ++ Q)).2)
  | n, P, Q, hn => by
    by_cases h : to ≤ P.length
    · cases n with
      | zero => omega
      | succ n =>
        rw [groups_ge ht h, groups_ge ht (P := P ++ Q) (by rw [List.length_append]; omega), List.take_append_of_le_length h, List.drop_append_of_le_length h, groups_app ht n (P.drop to) Q (by rw [List.length_drop]; omega)]
        simp
    · rw [groups_lt (P := P) (by omega)]; simp
theorem groups_rest {to : Nat} (ht : 0 < to) : ∀ (n : Nat) (P : List Int), P.length ≤ n → (groups to P).2.length < to
  | n, P, hn => by
    by_cases h : to ≤ P.length
    · cases n with
      | zero => omega
      | succ n => rw [groups_ge ht h]; exact groups_rest ht n _ (by rw [List.length_drop]; omega)
    · rw [groups_lt (by omega)]; simp only; omega
theorem bit_take {l : List Int} (h : bit l) (n : Nat) : bit (l.take n) := fun x hx => h x (List.mem_of_mem_take hx)
theorem bit_drop {l : List Int} (h : bit l) (n : Nat) : bit (l.drop n) := fun x hx => h x (List.mem_of_mem_drop hx)
theorem bit_app {a b : List Int} (h : bit a) (g : bit b) : bit (a ++ b) := fun x hx => by
  rcases List.mem_append.1 hx with hx | hx
  · exact h x hx
  · exact g x hx
theorem bitsV_len : ∀ (n : Nat) (v : Int), (bitsV n v).length = n
  | 0, _ => rfl
  | n + 1, v => by rw [bitsV, List.length_cons, bitsV_len n v]
theorem bitsV_bit : ∀ (n : Nat) (v : Int), bit (bitsV n v)
  | 0, _ => fun x hx => by cases hx
  | n + 1, v => fun x hx => by
    rw [bitsV] at hx
    rcases List.mem_cons.1 hx with rfl | hx
    · omega
    · exact bitsV_bit n v x hx
theorem bitsF_bit (n : Nat) (l : List Int) : bit (bitsF n l) := fun x hx => by
  obtain ⟨v, _, hv⟩ := List.mem_flatMap.1 hx
  exact bitsV_bit n v x hv
theorem bitsF_len (n : Nat) (l : List Int) : (bitsF n l).length = l.length * n := by
  induction l with
  | nil => simp [bitsF]
  | cons v l ih =>
    have : bitsF n (v :: l) = bitsV n v ++ bitsF n l := by simp [bitsF]
    rw [this, List.length_append, ih, bitsV_len, List.length_cons, Nat.add_mul]
    omega
theorem fold_valB (l : List Int) : ∀ (a : Int), l.foldl (fun a b => 2 * a + b) a = a * 2 ^ l.length + valB l := by
  induction l with
  | nil => intro a; simp [valB]
  | cons x l ih =>
    intro a
    rw [valB, List.foldl_cons, List.foldl_cons, ih, ih (2 * 0 + x), List.length_cons, Int.pow_succ]
    have e : (2 * a + x) * 2 ^ l.length = a * (2 ^ l.length * 2) + x * 2 ^ l.length := by
      rw [Int.add_mul, Int.mul_comm 2 a, Int.mul_assoc, Int.mul_comm 2]
    rw [e]
    simp [Int.add_assoc]
theorem valB_app (a b : List Int) : valB (a ++ b) = valB a * 2 ^ b.length + valB b := by
  rw [valB, List.foldl_append, fold_valB]; rfl
theorem valB_snoc (a : List Int) (x : Int) : valB (a ++ [x]) = 2 * valB a + x := by
  rw [valB, List.foldl_append]; rfl
theorem pow_pos' (n : Nat) : 0 < (2 : Int) ^ n := by
  have := Nat.pow_pos (n := n) (show 0 < 2 by decide)
  exact_mod_cast this
theorem valB_b {l : List Int} (h : bit l) : 0 ≤ valB l ∧ valB l < 2 ^ l.length := by
  induction l with
  | nil => simp [valB]
  | cons x l ih =>
    have i := ih fun y hy => h y (List.mem_cons_of_mem _ hy)
    have e : valB (x :: l) = x * 2 ^ l.length + valB l := by
      rw [valB, List.foldl_cons, fold_valB]; simp
    rw [e, List.length_cons, Int.pow_succ]
    have hp := pow_pos' l.length
    rcases h x (by simp) with rfl | rfl
    · rw [Int.zero_mul]; omega
    · rw [Int.one_mul]; omega
theorem valB_cons (x : Int) (l : List Int) : valB (x :: l) = x * 2 ^ l.length + valB l := by
  rw [valB, List.foldl_cons, fold_valB]; simp
theorem bitsV_mod : ∀ (n : Nat) (v : Int), 0 ≤ v → valB (bitsV n v) = v % 2 ^ n
  | 0, v, _ => by simp [bitsV, valB]
  | n + 1, v, h => by
    rw [bitsV, valB_cons, bitsV_len, bitsV_mod n v h]
    have hp := pow_pos' n
    have e : v % 2 ^ (n + 1) = v % (2 ^ n * 2) := by rw [Int.pow_succ]
    rw [e]
    generalize (2 : Int) ^ n = m at *
    have h1 := Int.mul_ediv_add_emod v m
    have h2 := Int.emod_nonneg v (b := m) (by omega)
    have h3 := Int.emod_lt_of_pos v hp
    have h4 := Int.emod_add_mul_ediv (v / m) 2
    have h5 : v = (v / m % 2 * m + v % m) + m * 2 * (v / m / 2) := by
      have : m * (v / m) = m * (v / m % 2) + m * (2 * (v / m / 2)) := by rw [← Int.mul_add, h4]
      rw [Int.mul_comm (v / m % 2), Int.mul_assoc m]
      omega
    have h6 : v / m % 2 = 0 ∨ v / m % 2 = 1 := by omega
    have h7 : 0 ≤ v / m % 2 * m + v % m ∧ v / m % 2 * m + v % m < m * 2 := by
      rcases h6 with h6 | h6 <;> rw [h6] <;> omega
    conv => rhs; rw [h5]
    rw [Int.add_mul_emod_self_left, Int.emod_eq_of_lt h7.1 h7.2]
theorem bitsV_val {n : Nat} {v : Int} (h : 0 ≤ v ∧ v < 2 ^ n) : valB (bitsV n v) = v := by
  rw [bitsV_mod n v h.1, Int.emod_eq_of_lt h.1 h.2]
theorem bitsV_add : ∀ (n : Nat) (u v : Int), bitsV n (u * 2 ^ n + v) = bitsV n v := by
  intro n u v
  have key : ∀ (m j : Nat), bitsV m (u * 2 ^ (m + j) + v) = bitsV m v := by
    intro m
    induction m with
    | zero => intro j; rfl
    | succ m ih =>
      intro j
      rw [bitsV, bitsV]
      have e1 : u * 2 ^ (m + 1 + j) = u * 2 ^ (m + (j + 1)) := by congr 2; omega
      rw [e1, ih (j + 1)]
      congr 1
      have e2 : u * 2 ^ (m + (j + 1)) + v = v + 2 ^ m * (u * 2 ^ j * 2) := by
        rw [Int.pow_add, Int.pow_succ, Int.add_comm, ← Int.mul_assoc u, Int.mul_comm u, Int.mul_assoc, Int.mul_assoc]
      rw [e2, Int.add_mul_ediv_left _ _ (by have := pow_pos' m; omega)]
      omega
  exact key n 0
theorem bitsV_of : ∀ {l : List Int}, bit l → bitsV l.length (valB l) = l
  | [], _ => rfl
  | x :: l, h => by
    have hl : bit l := fun y hy => h y (List.mem_cons_of_mem _ hy)
    have b := valB_b hl
    rw [List.length_cons, bitsV, valB_cons, bitsV_add, bitsV_of hl]
    congr 1
    have hp := pow_pos' l.length
    rw [Int.add_comm, Int.add_mul_ediv_right _ _ (by omega), Int.ediv_eq_zero_of_lt b.1 b.2]
    rcases h x (by simp) with rfl | rfl <;> rfl
theorem valB_zeros (k : Nat) : valB (List.replicate k 0) = 0 := by
  induction k with
  | zero => rfl
  | succ k ih => rw [List.replicate_succ, valB_cons, ih]; simp
theorem bits_groups {n : Nat} (hn : 0 < n) : ∀ (k : Nat) (P : List Int), P.length ≤ k → bit P → bitsF n (groups n P).1 ++ (groups n P).2 = P ∧ (∀ v ∈ (groups n P).1, 0 ≤ v ∧ v < 2 ^ n)
  | k, P, hk, hb => by
    by_cases h : n ≤ P.length
    · cases k with
      | zero => omega
      | succ k =>
        obtain ⟨i1, i2⟩ := bits_groups hn k (P.drop n) (by rw [List.length_drop]; omega) (bit_drop hb n)
        have hl : (P.take n).length = n := by rw [List.length_take]; omega
        have hv := valB_b (bit_take hb n)
        rw [hl] at hv
        have hbv := bitsV_of (bit_take hb n)
        rw [hl] at hbv
        rw [groups_ge hn h]
        refine ⟨?_, fun v hv2 => ?_⟩
        · show bitsF n (valB (P.take n) :: (groups n (P.drop n)).1) ++ (groups n (P.drop n)).2 = P
          have e : bitsF n (valB (P.take n) :: (groups n (P.drop n)).1) = bitsV n (valB (P.take n)) ++ bitsF n (groups n (P.drop n)).1 := by simp [bitsF]
          rw [e, List.append_assoc, i1, hbv, List.take_append_drop]
        · rcases List.mem_cons.1 hv2 with rfl | hv2
          · exact hv
          · exact i2 v hv2
    · rw [groups_lt (by omega)]
      exact ⟨by simp [bitsF], fun v hv => by cases hv⟩
/-- What the document asks for: other groups; none: they can't be. -/
def fits (n : Nat) (l : List Int) : Prop := ∀ v ∈ l, v < 2 ^ n
instance (n : Nat) (l : List Int) : Decidable (fits n l) := inferInstanceAs (Decidable (∀ v ∈ l, v < 2 ^ n))
def padF (to : Nat) (R : List Int) : List Int := if R = [] then [] else [valB R * 2 ^ (to - R.length)]
def regF (l : List Int) (a b : Nat) (pad : Bool) : Option (List Int) :=
  if fits a l then
    (match groups b (bitsF a l) with
      | (G, R) => if pad then some (G ++ padF b R) else if R.length ≥ a ∨ valB R ≠ 0 then none else some G)
  else none
theorem regF_pad_b {l : List Int} {a b : Nat} (hb : 0 < b) {x : List Int} (h : regF l a b true = some x) : ∀ v ∈ x, 0 ≤ v ∧ v < 2 ^ b := by
  unfold regF at h
  split at h
  · obtain ⟨i1, i2⟩ := bits_groups hb _ (bitsF a l) (Nat.le_refl _) (bitsF_bit a l)
    have hR := groups_rest hb _ (bitsF a l) (Nat.le_refl _)
    have hRb : bit (groups b (bitsF a l)).2 := fun y hy => bitsF_bit a l y (by rw [← i1]; exact List.mem_append_right _ hy)
    generalize groups b (bitsF a l) = g at *
    obtain ⟨G, R⟩ := g
    simp only at *
    simp only [if_true] at h
    obtain rfl := Option.some.inj h
    intro v hv
    rcases List.mem_append.1 hv with hv | hv
    · exact i2 v hv
    · unfold padF at hv
      split at hv
      · cases hv
      · rw [List.mem_singleton.1 hv]
        have b1 := valB_b hRb
        have hp := pow_pos' (b - R.length)
        have e : (2 : Int) ^ b = 2 ^ R.length * 2 ^ (b - R.length) := by rw [← Int.pow_add]; congr 1; omega
        exact ⟨Int.mul_nonneg b1.1 (by omega), by rw [e]; exact Int.mul_lt_mul_of_pos_right b1.2 hp⟩
  · cases h
/-! ### The model's arithmetic, at what is used here -/
theorem min64 {n : Nat} (h : n ≤ 64) : Nat.min n IntKind.i64.bits = n := Nat.min_eq_left h
theorem min8 {n : Nat} (h : n ≤ 8) : Nat.min n IntKind.u8.bits = n := Nat.min_eq_left h
theorem fdiv_2 (a : Int) (n : Nat) : a.fdiv (2 ^ n) = a / 2 ^ n := Int.fdiv_eq_ediv_of_nonneg _ (by have := pow_pos' n; omega)
theorem ofInt_nat (k : Nat) (x : Nat) : BitVec.ofInt k (x : Int) = BitVec.ofNat k x := by
  rw [← BitVec.ofInt_natCast]
theorem or_is {a b : Int} {n : Nat} (ha : 0 ≤ a) (hb : 0 ≤ b ∧ b < 2 ^ n) (hl : a * 2 ^ n + b < 9223372036854775808) :
    IntKind.i64.wrap (((BitVec.ofInt IntKind.i64.bits (a * 2 ^ n) ||| BitVec.ofInt IntKind.i64.bits b).toNat : Nat) : Int) = a * 2 ^ n + b := by
  obtain ⟨x, rfl⟩ := Int.eq_ofNat_of_zero_le ha
  obtain ⟨y, rfl⟩ := Int.eq_ofNat_of_zero_le hb.1
  have hy : y < 2 ^ n := by exact_mod_cast hb.2
  have e0 : ((x : Nat) : Int) * 2 ^ n + ((y : Nat) : Int) = ((x * 2 ^ n + y : Nat) : Int) := by rw [Int.natCast_add, Int.natCast_mul, Int.natCast_pow]; rfl
  have hl' : x * 2 ^ n + y < 9223372036854775808 := by omega
  have e1 : ((x : Nat) : Int) * 2 ^ n = ((x * 2 ^ n : Nat) : Int) := by rw [Int.natCast_mul, Int.natCast_pow]; rfl
  have e2 : (BitVec.ofNat 64 (x * 2 ^ n) ||| BitVec.ofNat 64 y).toNat = x * 2 ^ n + y := by
    rw [BitVec.toNat_or, BitVec.toNat_ofNat, BitVec.toNat_ofNat, Nat.mod_eq_of_lt (by omega), Nat.mod_eq_of_lt (by omega), Nat.mul_comm, Nat.two_pow_add_eq_or_of_lt hy]
  rw [e1, ofInt_nat, ofInt_nat]
  show IntKind.i64.wrap (((BitVec.ofNat 64 (x * 2 ^ n) ||| BitVec.ofNat 64 y).toNat : Nat) : Int) = _
  rw [e2, wrap_i64 (by omega) (by omega), Int.natCast_add]
theorem and_is {a : Int} {n : Nat} (ha : 0 ≤ a ∧ a < 9223372036854775808) (hn : n ≤ 62) :
    IntKind.i64.wrap (((BitVec.ofInt IntKind.i64.bits a &&& BitVec.ofInt IntKind.i64.bits (2 ^ n - 1)).toNat : Nat) : Int) = a % 2 ^ n := by
  obtain ⟨x, rfl⟩ := Int.eq_ofNat_of_zero_le ha.1
  have hp := Nat.pow_le_pow_right (n := 2) (by decide) hn
  have hp0 := Nat.pow_pos (n := n) (show 0 < 2 by decide)
  have e1 : (2 : Int) ^ n - 1 = ((2 ^ n - 1 : Nat) : Int) := by rw [Int.natCast_sub hp0, Int.natCast_pow]; rfl
  have e2 : (BitVec.ofNat 64 x &&& BitVec.ofNat 64 (2 ^ n - 1)).toNat = x % 2 ^ n := by
    rw [BitVec.toNat_and, BitVec.toNat_ofNat, BitVec.toNat_ofNat, Nat.mod_eq_of_lt (by omega), Nat.mod_eq_of_lt (a := 2 ^ n - 1) (by omega), Nat.and_two_pow_sub_one_eq_mod]
  rw [e1, ofInt_nat, ofInt_nat]
  show IntKind.i64.wrap (((BitVec.ofNat 64 x &&& BitVec.ofNat 64 (2 ^ n - 1)).toNat : Nat) : Int) = _
  have hm := Nat.mod_lt x hp0
  rw [e2, wrap_i64 (by omega) (by omega), Int.natCast_emod, Int.natCast_pow]; rfl
end Go.Proofs
namespace Go.Proofs
open Go.Vc
set_option maxRecDepth 10000

theorem take_val {z : Int} {b : Nat} {P : List Int} (hP : bit P) (h : z % 2 ^ P.length = valB P) (hb : b ≤ P.length) :
    (z / 2 ^ (P.length - b)) % 2 ^ b = valB (P.take b) ∧ z % 2 ^ (P.length - b) = valB (P.drop b) := by
  have e1 : valB P = valB (P.take b) * 2 ^ (P.length - b) + valB (P.drop b) := by
    have := valB_app (P.take b) (P.drop b)
    rwa [List.take_append_drop, List.length_drop] at this
  have t := valB_b (bit_take hP b)
  have d := valB_b (bit_drop hP b)
  rw [List.length_take, Nat.min_eq_left hb] at t
  rw [List.length_drop] at d
  have ep : (2 : Int) ^ P.length = 2 ^ (P.length - b) * 2 ^ b := by rw [← Int.pow_add]; congr 1; omega
  have hz := Int.mul_ediv_add_emod z (2 ^ P.length)
  rw [h, e1, ep] at hz
  generalize valB (P.take b) = T at *
  generalize valB (P.drop b) = D at *
  have hm := pow_pos' (P.length - b)
  generalize (2 : Int) ^ (P.length - b) = m at *
  generalize (2 : Int) ^ b = k at *
  generalize z / (m * k) = q at *
  have hz2 : z = D + m * (T + k * q) := by
    rw [← hz, Int.mul_add, Int.mul_assoc, Int.mul_comm T m]
    omega
  constructor
  · rw [hz2, Int.add_mul_ediv_left _ _ (by omega), Int.ediv_eq_zero_of_lt d.1 d.2, Int.zero_add, Int.add_mul_emod_self_left, Int.emod_eq_of_lt t.1 t.2]
  · rw [hz2, Int.add_mul_emod_self_left, Int.emod_eq_of_lt d.1 d.2]
theorem push_val {z v : Int} {a : Nat} {P : List Int} (h : z % 2 ^ P.length = valB P) (hv : 0 ≤ v ∧ v < 2 ^ a) (hk : P.length + a ≤ 16) :
    ((z * 2 ^ a + v) % 65536) % 2 ^ (P ++ bitsV a v).length = valB (P ++ bitsV a v) := by
  have hd : (2 : Int) ^ (P ++ bitsV a v).length ∣ 65536 := by
    rw [List.length_append, bitsV_len]
    have : (65536 : Int) = 2 ^ (P.length + a) * 2 ^ (16 - (P.length + a)) := by
      rw [← Int.pow_add]
      have : P.length + a + (16 - (P.length + a)) = 16 := by omega
      rw [this]; rfl
    exact ⟨_, this⟩
  rw [Int.emod_emod_of_dvd _ hd, valB_app, bitsV_val hv, bitsV_len, List.length_append, bitsV_len, Int.pow_add, ← h]
  have hz := Int.mul_ediv_add_emod z (2 ^ P.length)
  have h1 := Int.emod_nonneg z (b := 2 ^ P.length) (by have := pow_pos' P.length; omega)
  have h2 := Int.emod_lt_of_pos z (pow_pos' P.length)
  have ha := pow_pos' a
  have hp := pow_pos' P.length
  generalize z % 2 ^ P.length = r at *
  generalize z / 2 ^ P.length = q at *
  generalize (2 : Int) ^ a = m at *
  generalize (2 : Int) ^ P.length = k at *
  have e : z * m + v = (r * m + v) + k * m * q := by
    rw [← hz, Int.add_mul, Int.mul_assoc k m q, Int.mul_comm m q, Int.mul_assoc k q m]
    omega
  rw [e, Int.add_mul_emod_self_left]
  refine Int.emod_eq_of_lt (Int.add_nonneg (Int.mul_nonneg h1 (by omega)) hv.1) ?_
  have h3 : r * m + m ≤ k * m := by
    have h4 : r + 1 ≤ k := by omega
    have := Int.mul_le_mul_of_nonneg_right h4 (show 0 ≤ m by omega)
    rwa [Int.add_mul, Int.one_mul] at this
  omega
theorem pow_le8 {n : Nat} (h : n ≤ 8) : (2 : Int) ^ n ≤ 256 := by
  have := Nat.pow_le_pow_right (n := 2) (by decide) h
  have e : ((2 ^ n : Nat) : Int) = 2 ^ n := Int.natCast_pow 2 n
  omega
theorem shr_0 {v : Int} {a : Nat} (h : 0 ≤ v) : v / 2 ^ a = 0 ↔ v < 2 ^ a := by
  constructor
  · intro hz
    rcases Int.lt_or_le v (2 ^ a) with h1 | h1
    · exact h1
    · have h2 := Int.ediv_le_ediv (pow_pos' a) h1
      rw [Int.ediv_self (by have := pow_pos' a; omega)] at h2
      omega
  · exact fun h1 => Int.ediv_eq_zero_of_lt h h1
def regE (l : List Int) (a b : Int) (pad : Bool) : List Int × Int :=
  if a < 1 ∨ 8 < a ∨ b < 1 ∨ 8 < b then ([], 1) else match regF l a.toNat b.toNat pad with
    | none => ([], 3)
    | some x => (x, 0)
def GrTo (w w' : World) (r : List Int × Int) (u : Value) : Prop := ∃ x, u = .tuple #[x, .int .i64 r.2] ∧ New w w' x r.1
set_option maxHeartbeats 1600000 in
theorem regroup_ok (w : World) (v : Value) (bs : List Int) (a b : Int) (pad : Bool) (h : Rd w v bs) (hb : byt bs) (hl : bs.length ≤ 1000000) :
    Calls Tryd.prog 36 #[v, .int .i64 a, .int .i64 b, .bool pad] w (Ret fun u w' => GrTo w w' (regE bs a b pad) u) := by
  refine calls_of_cfg c36_ok (Nat.le_of_ble_eq_true rfl) ?_
  simp only [argE_nil, argE_cons, Nat.reduceAdd, Nat.zero_add]
  have hlen := h.len
  (refine W_at c36_ok ?_; refine ⟨_, rfl, ?_⟩; simp (disch := first | omega | assumption | rfl | (simp only [vcS] <;> omega) | fail) only [↓ptV_l, ↓vcA, vcB, ↓vcD, vcE, ↓reduceIte, Nat.reduceEqDiff, Nat.reduceAdd, Nat.reduceMul, Nat.reduceLeDiff, Int.reduceLE, Int.reduceLT, Int.reduceEq, Int.reduceToNat, Int.reduceAdd, Int.reduceSub, Int.reduceMul, Int.reduceNeg, reduceCtorEq, Option.bind_some, Option.map_some, List.length_cons, List.length_nil, vcM, List.getElem?_toArray, List.getElem?_cons_zero, List.getElem?_cons_succ])
  have arg : ∀ tl, (a < 1 ∨ 8 < a ∨ b < 1 ∨ 8 < b) → W Tryd.prog (Ret fun u w' => GrTo w w' (regE bs a b pad) u) 36 30 tl w := by
    intro tl hx
    (refine W_at c36_ok ?_; refine ⟨_, rfl, ?_⟩; simp (disch := first | omega | assumption | rfl | (simp only [vcS] <;> omega) | fail) only [↓ptV_l, ↓vcA, vcB, ↓vcD, vcE, ↓reduceIte, Nat.reduceEqDiff, Nat.reduceAdd, Nat.reduceMul, Nat.reduceLeDiff, Int.reduceLE, Int.reduceLT, Int.reduceEq, Int.reduceToNat, Int.reduceAdd, Int.reduceSub, Int.reduceMul, Int.reduceNeg, reduceCtorEq, Option.bind_some, Option.map_some, List.length_cons, List.length_nil, vcM, List.getElem?_toArray, List.getElem?_cons_zero, List.getElem?_cons_succ])
    (refine W_at c36_ok ?_; refine ⟨_, rfl, ?_⟩; simp (disch := first | omega | assumption | rfl | (simp only [vcS] <;> omega) | fail) only [↓ptV_l, ↓vcA, vcB, ↓vcD, vcE, ↓reduceIte, Nat.reduceEqDiff, Nat.reduceAdd, Nat.reduceMul, Nat.reduceLeDiff, Int.reduceLE, Int.reduceLT, Int.reduceEq, Int.reduceToNat, Int.reduceAdd, Int.reduceSub, Int.reduceMul, Int.reduceNeg, reduceCtorEq, Option.bind_some, Option.map_some, List.length_cons, List.length_nil, vcM, List.getElem?_toArray, List.getElem?_cons_zero, List.getElem?_cons_succ, Ret_returned])
    unfold regE
    rw [if_pos hx]
    exact ⟨_, rfl, New.nil w⟩
  by_cases h1 : a < 1
  · (refine W_at c36_ok ?_; refine ⟨_, rfl, ?_⟩; simp (disch := first | omega | assumption | rfl | (simp only [vcS] <;> omega) | fail) only [↓ptV_l, ↓vcA, vcB, ↓vcD, vcE, ↓reduceIte, Nat.reduceEqDiff, Nat.reduceAdd, Nat.reduceMul, Nat.reduceLeDiff, Int.reduceLE, Int.reduceLT, Int.reduceEq, Int.reduceToNat, Int.reduceAdd, Int.reduceSub, Int.reduceMul, Int.reduceNeg, reduceCtorEq, Option.bind_some, Option.map_some, List.length_cons, List.length_nil, vcM, List.getElem?_toArray, List.getElem?_cons_zero, List.getElem?_cons_succ, h1])
    (refine W_at c36_ok ?_; refine ⟨_, rfl, ?_⟩; simp (disch := first | omega | assumption | rfl | (simp only [vcS] <;> omega) | fail) only [↓ptV_l, ↓vcA, vcB, ↓vcD, vcE, ↓reduceIte, Nat.reduceEqDiff, Nat.reduceAdd, Nat.reduceMul, Nat.reduceLeDiff, Int.reduceLE, Int.reduceLT, Int.reduceEq, Int.reduceToNat, Int.reduceAdd, Int.reduceSub, Int.reduceMul, Int.reduceNeg, reduceCtorEq, Option.bind_some, Option.map_some, List.length_cons, List.length_nil, vcM, List.getElem?_toArray, List.getElem?_cons_zero, List.getElem?_cons_succ])
    exact arg _ (.inl h1)
  by_cases h2 : 8 < a
  · (refine W_at c36_ok ?_; refine ⟨_, rfl, ?_⟩; simp (disch := first | omega | assumption | rfl | (simp only [vcS] <;> omega) | fail) only [↓ptV_l, ↓vcA, vcB, ↓vcD, vcE, ↓reduceIte, Nat.reduceEqDiff, Nat.reduceAdd, Nat.reduceMul, Nat.reduceLeDiff, Int.reduceLE, Int.reduceLT, Int.reduceEq, Int.reduceToNat, Int.reduceAdd, Int.reduceSub, Int.reduceMul, Int.reduceNeg, reduceCtorEq, Option.bind_some, Option.map_some, List.length_cons, List.length_nil, vcM, List.getElem?_toArray, List.getElem?_cons_zero, List.getElem?_cons_succ, h1, h2])
    (refine W_at c36_ok ?_; refine ⟨_, rfl, ?_⟩; simp (disch := first | omega | assumption | rfl | (simp only [vcS] <;> omega) | fail) only [↓ptV_l, ↓vcA, vcB, ↓vcD, vcE, ↓reduceIte, Nat.reduceEqDiff, Nat.reduceAdd, Nat.reduceMul, Nat.reduceLeDiff, Int.reduceLE, Int.reduceLT, Int.reduceEq, Int.reduceToNat, Int.reduceAdd, Int.reduceSub, Int.reduceMul, Int.reduceNeg, reduceCtorEq, Option.bind_some, Option.map_some, List.length_cons, List.length_nil, vcM, List.getElem?_toArray, List.getElem?_cons_zero, List.getElem?_cons_succ])
    exact arg _ (.inr (.inl h2))
  by_cases h3 : b < 1
  · (refine W_at c36_ok ?_; refine ⟨_, rfl, ?_⟩; simp (disch := first | omega | assumption | rfl | (simp only [vcS] <;> omega) | fail) only [↓ptV_l, ↓vcA, vcB, ↓vcD, vcE, ↓reduceIte, Nat.reduceEqDiff, Nat.reduceAdd, Nat.reduceMul, Nat.reduceLeDiff, Int.reduceLE, Int.reduceLT, Int.reduceEq, Int.reduceToNat, Int.reduceAdd, Int.reduceSub, Int.reduceMul, Int.reduceNeg, reduceCtorEq, Option.bind_some, Option.map_some, List.length_cons, List.length_nil, vcM, List.getElem?_toArray, List.getElem?_cons_zero, List.getElem?_cons_succ, h1, h2, h3])
    (refine W_at c36_ok ?_; refine ⟨_, rfl, ?_⟩; simp (disch := first | omega | assumption | rfl | (simp only [vcS] <;> omega) | fail) only [↓ptV_l, ↓vcA, vcB, ↓vcD, vcE, ↓reduceIte, Nat.reduceEqDiff, Nat.reduceAdd, Nat.reduceMul, Nat.reduceLeDiff, Int.reduceLE, Int.reduceLT, Int.reduceEq, Int.reduceToNat, Int.reduceAdd, Int.reduceSub, Int.reduceMul, Int.reduceNeg, reduceCtorEq, Option.bind_some, Option.map_some, List.length_cons, List.length_nil, vcM, List.getElem?_toArray, List.getElem?_cons_zero, List.getElem?_cons_succ])
    exact arg _ (.inr (.inr (.inl h3)))
  by_cases h4 : 8 < b
  · (refine W_at c36_ok ?_; refine ⟨_, rfl, ?_⟩; simp (disch := first | omega | assumption | rfl | (simp only [vcS] <;> omega) | fail) only [↓ptV_l, ↓vcA, vcB, ↓vcD, vcE, ↓reduceIte, Nat.reduceEqDiff, Nat.reduceAdd, Nat.reduceMul, Nat.reduceLeDiff, Int.reduceLE, Int.reduceLT, Int.reduceEq, Int.reduceToNat, Int.reduceAdd, Int.reduceSub, Int.reduceMul, Int.reduceNeg, reduceCtorEq, Option.bind_some, Option.map_some, List.length_cons, List.length_nil, vcM, List.getElem?_toArray, List.getElem?_cons_zero, List.getElem?_cons_succ, h1, h2, h3, h4])
    (refine W_at c36_ok ?_; refine ⟨_, rfl, ?_⟩; simp (disch := first | omega | assumption | rfl | (simp only [vcS] <;> omega) | fail) only [↓ptV_l, ↓vcA, vcB, ↓vcD, vcE, ↓reduceIte, Nat.reduceEqDiff, Nat.reduceAdd, Nat.reduceMul, Nat.reduceLeDiff, Int.reduceLE, Int.reduceLT, Int.reduceEq, Int.reduceToNat, Int.reduceAdd, Int.reduceSub, Int.reduceMul, Int.reduceNeg, reduceCtorEq, Option.bind_some, Option.map_some, List.length_cons, List.length_nil, vcM, List.getElem?_toArray, List.getElem?_cons_zero, List.getElem?_cons_succ])
    exact arg _ (.inr (.inr (.inr h4)))
  (refine W_at c36_ok ?_; refine ⟨_, rfl, ?_⟩; simp (disch := first | omega | assumption | rfl | (simp only [vcS] <;> omega) | fail) only [↓ptV_l, ↓vcA, vcB, ↓vcD, vcE, ↓reduceIte, Nat.reduceEqDiff, Nat.reduceAdd, Nat.reduceMul, Nat.reduceLeDiff, Int.reduceLE, Int.reduceLT, Int.reduceEq, Int.reduceToNat, Int.reduceAdd, Int.reduceSub, Int.reduceMul, Int.reduceNeg, reduceCtorEq, Option.bind_some, Option.map_some, List.length_cons, List.length_nil, vcM, List.getElem?_toArray, List.getElem?_cons_zero, List.getElem?_cons_succ, h1, h2, h3, h4])
  (refine W_at c36_ok ?_; refine ⟨_, rfl, ?_⟩; simp (disch := first | omega | assumption | rfl | (simp only [vcS] <;> omega) | fail) only [↓ptV_l, ↓vcA, vcB, ↓vcD, vcE, ↓reduceIte, Nat.reduceEqDiff, Nat.reduceAdd, Nat.reduceMul, Nat.reduceLeDiff, Int.reduceLE, Int.reduceLT, Int.reduceEq, Int.reduceToNat, Int.reduceAdd, Int.reduceSub, Int.reduceMul, Int.reduceNeg, reduceCtorEq, Option.bind_some, Option.map_some, List.length_cons, List.length_nil, vcM, List.getElem?_toArray, List.getElem?_cons_zero, List.getElem?_cons_succ])
  obtain ⟨a, rfl⟩ := Int.eq_ofNat_of_zero_le (show 0 ≤ a by omega)
  obtain ⟨b, rfl⟩ := Int.eq_ofNat_of_zero_le (show 0 ≤ b by omega)
  have ha : 1 ≤ a ∧ a ≤ 8 := by omega
  have hbb : 1 ≤ b ∧ b ≤ 8 := by omega
  have hR : regE bs (a : Int) (b : Int) pad = match regF bs a b pad with | none => ([], 3) | some x => (x, 0) := by
    unfold regE
    rw [if_neg (by omega), Int.toNat_natCast, Int.toNat_natCast]
  rw [hR]
  clear hR arg h1 h2 h3 h4
  have h0a : 0 ≤ (a : Int) := by omega
  have h0b : 0 ≤ (b : Int) := by omega
  have ma := min64 (n := a) (by omega)
  have mb := min64 (n := b) (by omega)
  have pa := pow_pos' a
  have pb := pow_pos' b
  have pa8 := pow_le8 ha.2
  have pb8 := pow_le8 hbb.2
  have wb : IntKind.i64.wrap (1 * 2 ^ b) = 2 ^ b := by rw [Int.one_mul]; exact wrap_i64 (by omega) (by omega)
  have wb1 : IntKind.i64.wrap (2 ^ b - 1) = 2 ^ b - 1 := wrap_i64 (by omega) (by omega)
  (refine W_at c36_ok ?_; refine ⟨_, rfl, ?_⟩; simp (disch := first | omega | assumption | rfl | (simp only [vcS] <;> omega) | fail) only [↓ptV_l, ↓vcA, vcB, ↓vcD, vcE, ↓reduceIte, Nat.reduceEqDiff, Nat.reduceAdd, Nat.reduceMul, Nat.reduceLeDiff, Int.reduceLE, Int.reduceLT, Int.reduceEq, Int.reduceToNat, Int.reduceAdd, Int.reduceSub, Int.reduceMul, Int.reduceNeg, reduceCtorEq, Option.bind_some, Option.map_some, List.length_cons, List.length_nil, vcM, List.getElem?_toArray, List.getElem?_cons_zero, List.getElem?_cons_succ])
  (refine W_at c36_ok ?_; refine ⟨_, rfl, ?_⟩; simp (disch := first | omega | assumption | rfl | (simp only [vcS] <;> omega) | fail) only [↓ptV_l, ↓vcA, vcB, ↓vcD, vcE, ↓reduceIte, Nat.reduceEqDiff, Nat.reduceAdd, Nat.reduceMul, Nat.reduceLeDiff, Int.reduceLE, Int.reduceLT, Int.reduceEq, Int.reduceToNat, Int.reduceAdd, Int.reduceSub, Int.reduceMul, Int.reduceNeg, reduceCtorEq, Option.bind_some, Option.map_some, List.length_cons, List.length_nil, vcM, List.getElem?_toArray, List.getElem?_cons_zero, List.getElem?_cons_succ])
  (refine W_at c36_ok ?_; refine ⟨_, rfl, ?_⟩; simp (disch := first | omega | assumption | rfl | (simp only [vcS] <;> omega) | fail) only [↓ptV_l, ↓vcA, vcB, ↓vcD, vcE, ↓reduceIte, Nat.reduceEqDiff, Nat.reduceAdd, Nat.reduceMul, Nat.reduceLeDiff, Int.reduceLE, Int.reduceLT, Int.reduceEq, Int.reduceToNat, Int.reduceAdd, Int.reduceSub, Int.reduceMul, Int.reduceNeg, reduceCtorEq, Option.bind_some, Option.map_some, List.length_cons, List.length_nil, vcM, List.getElem?_toArray, List.getElem?_cons_zero, List.getElem?_cons_succ, hlen])
  have L : ∀ (k i : Nat) (wj : World) (v10 : Value) (z : Int) (G P : List Int), k + i = bs.length → New w wj v10 G → G.length + P.length ≤ 8 * i → 0 ≤ z ∧ z ≤ 65535 → bit P → z % 2 ^ P.length = valB P → P.length < b → groups b (bitsF a (bs.take i)) = (G, P) → fits a (bs.take i) →
      W Tryd.prog (Ret fun u w' => GrTo w w' (match regF bs a b pad with | none => ([], 3) | some x => (x, 0)) u) 36 25 [(1, .int .i64 a), (2, .int .i64 b), (3, .bool pad), (10, v10), (11, .int .i64 z), (12, .int .i64 (P.length : Nat)), (30, v), (31, .int .i64 bs.length), (32, .int .i64 i)] wj := by
    intro k
    induction k with
    | zero =>
      intro i wj v10 z G P hi hN hGl hz hPb hzP hPl hg hf
      have hil : ¬ ((i : Int) < (bs.length : Int)) := by omega
      rw [List.take_of_length_le (by omega)] at hg hf
      have h0n : 0 ≤ (P.length : Int) := by omega
      have mn := min64 (n := P.length) (by omega)
      have pn := pow_pos' P.length
      have pn8 := pow_le8 (n := P.length) (by omega)
      have wn : IntKind.i64.wrap (1 * 2 ^ P.length) = 2 ^ P.length := by rw [Int.one_mul]; exact wrap_i64 (by omega) (by omega)
      have wn1 : IntKind.i64.wrap (2 ^ P.length - 1) = 2 ^ P.length - 1 := wrap_i64 (by omega) (by omega)
      have an := and_is (a := z) (n := P.length) (by omega) (by omega)
      rw [hzP] at an
      have vb := valB_b hPb
      have hreg : regF bs a b pad = if pad then some (G ++ padF b P) else if P.length ≥ a ∨ valB P ≠ 0 then none else some G := by
        unfold regF
        rw [if_pos hf, hg]
      rw [hreg]
      (refine W_at c36_ok ?_; refine ⟨_, rfl, ?_⟩; simp (disch := first | omega | assumption | rfl | (simp only [vcS] <;> omega) | fail) only [↓ptV_l, ↓vcA, vcB, ↓vcD, vcE, ↓reduceIte, Nat.reduceEqDiff, Nat.reduceAdd, Nat.reduceMul, Nat.reduceLeDiff, Int.reduceLE, Int.reduceLT, Int.reduceEq, Int.reduceToNat, Int.reduceAdd, Int.reduceSub, Int.reduceMul, Int.reduceNeg, reduceCtorEq, Option.bind_some, Option.map_some, List.length_cons, List.length_nil, vcM, List.getElem?_toArray, List.getElem?_cons_zero, List.getElem?_cons_succ, hil])
      (refine W_at c36_ok ?_; refine ⟨_, rfl, ?_⟩; simp (disch := first | omega | assumption | rfl | (simp only [vcS] <;> omega) | fail) only [↓ptV_l, ↓vcA, vcB, ↓vcD, vcE, ↓reduceIte, Nat.reduceEqDiff, Nat.reduceAdd, Nat.reduceMul, Nat.reduceLeDiff, Int.reduceLE, Int.reduceLT, Int.reduceEq, Int.reduceToNat, Int.reduceAdd, Int.reduceSub, Int.reduceMul, Int.reduceNeg, reduceCtorEq, Option.bind_some, Option.map_some, List.length_cons, List.length_nil, vcM, List.getElem?_toArray, List.getElem?_cons_zero, List.getElem?_cons_succ])
      (refine W_at c36_ok ?_; refine ⟨_, rfl, ?_⟩; simp (disch := first | omega | assumption | rfl | (simp only [vcS] <;> omega) | fail) only [↓ptV_l, ↓vcA, vcB, ↓vcD, vcE, ↓reduceIte, Nat.reduceEqDiff, Nat.reduceAdd, Nat.reduceMul, Nat.reduceLeDiff, Int.reduceLE, Int.reduceLT, Int.reduceEq, Int.reduceToNat, Int.reduceAdd, Int.reduceSub, Int.reduceMul, Int.reduceNeg, reduceCtorEq, Option.bind_some, Option.map_some, List.length_cons, List.length_nil, vcM, List.getElem?_toArray, List.getElem?_cons_zero, List.getElem?_cons_succ, h0n, Int.toNat_natCast, mn, wn, wn1, an])
      cases pad with
      | true =>
        rw [if_pos rfl]
        by_cases hn : P = []
        · subst hn
          have hp0 : padF b [] = [] := rfl
          rw [hp0, List.append_nil]
          have hlt : ¬ (0 < ((([] : List Int).length : Nat) : Int)) := by simp
          (refine W_at c36_ok ?_; refine ⟨_, rfl, ?_⟩; simp (disch := first | omega | assumption | rfl | (simp only [vcS] <;> omega) | fail) only [↓ptV_l, ↓vcA, vcB, ↓vcD, vcE, ↓reduceIte, Nat.reduceEqDiff, Nat.reduceAdd, Nat.reduceMul, Nat.reduceLeDiff, Int.reduceLE, Int.reduceLT, Int.reduceEq, Int.reduceToNat, Int.reduceAdd, Int.reduceSub, Int.reduceMul, Int.reduceNeg, reduceCtorEq, Option.bind_some, Option.map_some, List.length_cons, List.length_nil, vcM, List.getElem?_toArray, List.getElem?_cons_zero, List.getElem?_cons_succ, hlt])
          (refine W_at c36_ok ?_; refine ⟨_, rfl, ?_⟩; simp (disch := first | omega | assumption | rfl | (simp only [vcS] <;> omega) | fail) only [↓ptV_l, ↓vcA, vcB, ↓vcD, vcE, ↓reduceIte, Nat.reduceEqDiff, Nat.reduceAdd, Nat.reduceMul, Nat.reduceLeDiff, Int.reduceLE, Int.reduceLT, Int.reduceEq, Int.reduceToNat, Int.reduceAdd, Int.reduceSub, Int.reduceMul, Int.reduceNeg, reduceCtorEq, Option.bind_some, Option.map_some, List.length_cons, List.length_nil, vcM, List.getElem?_toArray, List.getElem?_cons_zero, List.getElem?_cons_succ])
          (refine W_at c36_ok ?_; refine ⟨_, rfl, ?_⟩; simp (disch := first | omega | assumption | rfl | (simp only [vcS] <;> omega) | fail) only [↓ptV_l, ↓vcA, vcB, ↓vcD, vcE, ↓reduceIte, Nat.reduceEqDiff, Nat.reduceAdd, Nat.reduceMul, Nat.reduceLeDiff, Int.reduceLE, Int.reduceLT, Int.reduceEq, Int.reduceToNat, Int.reduceAdd, Int.reduceSub, Int.reduceMul, Int.reduceNeg, reduceCtorEq, Option.bind_some, Option.map_some, List.length_cons, List.length_nil, vcM, List.getElem?_toArray, List.getElem?_cons_zero, List.getElem?_cons_succ])
          (refine W_at c36_ok ?_; refine ⟨_, rfl, ?_⟩; simp (disch := first | omega | assumption | rfl | (simp only [vcS] <;> omega) | fail) only [↓ptV_l, ↓vcA, vcB, ↓vcD, vcE, ↓reduceIte, Nat.reduceEqDiff, Nat.reduceAdd, Nat.reduceMul, Nat.reduceLeDiff, Int.reduceLE, Int.reduceLT, Int.reduceEq, Int.reduceToNat, Int.reduceAdd, Int.reduceSub, Int.reduceMul, Int.reduceNeg, reduceCtorEq, Option.bind_some, Option.map_some, List.length_cons, List.length_nil, vcM, List.getElem?_toArray, List.getElem?_cons_zero, List.getElem?_cons_succ])
          (refine W_at c36_ok ?_; refine ⟨_, rfl, ?_⟩; simp (disch := first | omega | assumption | rfl | (simp only [vcS] <;> omega) | fail) only [↓ptV_l, ↓vcA, vcB, ↓vcD, vcE, ↓reduceIte, Nat.reduceEqDiff, Nat.reduceAdd, Nat.reduceMul, Nat.reduceLeDiff, Int.reduceLE, Int.reduceLT, Int.reduceEq, Int.reduceToNat, Int.reduceAdd, Int.reduceSub, Int.reduceMul, Int.reduceNeg, reduceCtorEq, Option.bind_some, Option.map_some, List.length_cons, List.length_nil, vcM, List.getElem?_toArray, List.getElem?_cons_zero, List.getElem?_cons_succ])
          (refine W_at c36_ok ?_; refine ⟨_, rfl, ?_⟩; simp (disch := first | omega | assumption | rfl | (simp only [vcS] <;> omega) | fail) only [↓ptV_l, ↓vcA, vcB, ↓vcD, vcE, ↓reduceIte, Nat.reduceEqDiff, Nat.reduceAdd, Nat.reduceMul, Nat.reduceLeDiff, Int.reduceLE, Int.reduceLT, Int.reduceEq, Int.reduceToNat, Int.reduceAdd, Int.reduceSub, Int.reduceMul, Int.reduceNeg, reduceCtorEq, Option.bind_some, Option.map_some, List.length_cons, List.length_nil, vcM, List.getElem?_toArray, List.getElem?_cons_zero, List.getElem?_cons_succ, Ret_returned])
          exact ⟨_, rfl, hN⟩
        · have hlt : 0 < (P.length : Int) := by have := List.length_pos_iff.2 hn; omega
          have hp0 : padF b P = [valB P * 2 ^ (b - P.length)] := by unfold padF; rw [if_neg hn]
          have hsub : IntKind.i64.wrap ((b : Int) - (P.length : Nat)) = ((b - P.length : Nat) : Int) := by rw [wrap_i64 (by omega) (by omega)]; omega
          have h0d : 0 ≤ ((b - P.length : Nat) : Int) := by omega
          have md := min64 (n := b - P.length) (by omega)
          have hx : 0 ≤ valB P * 2 ^ (b - P.length) ∧ valB P * 2 ^ (b - P.length) < 256 := by
            have hp := pow_pos' (b - P.length)
            have e : (2 : Int) ^ b = 2 ^ P.length * 2 ^ (b - P.length) := by rw [← Int.pow_add]; congr 1; omega
            have := Int.mul_lt_mul_of_pos_right vb.2 hp
            exact ⟨Int.mul_nonneg vb.1 (by omega), by omega⟩
          have wx : IntKind.i64.wrap (valB P * 2 ^ (b - P.length)) = valB P * 2 ^ (b - P.length) := wrap_i64 (by omega) (by omega)
          have ux : IntKind.u8.wrap (valB P * 2 ^ (b - P.length)) = valB P * 2 ^ (b - P.length) := by rw [wrap_u8]; omega
          rw [hp0]
          (refine W_at c36_ok ?_; refine ⟨_, rfl, ?_⟩; simp (disch := first | omega | assumption | rfl | (simp only [vcS] <;> omega) | fail) only [↓ptV_l, ↓vcA, vcB, ↓vcD, vcE, ↓reduceIte, Nat.reduceEqDiff, Nat.reduceAdd, Nat.reduceMul, Nat.reduceLeDiff, Int.reduceLE, Int.reduceLT, Int.reduceEq, Int.reduceToNat, Int.reduceAdd, Int.reduceSub, Int.reduceMul, Int.reduceNeg, reduceCtorEq, Option.bind_some, Option.map_some, List.length_cons, List.length_nil, vcM, List.getElem?_toArray, List.getElem?_cons_zero, List.getElem?_cons_succ, hlt])
          (refine W_at c36_ok ?_; refine ⟨_, rfl, ?_⟩; simp (disch := first | omega | assumption | rfl | (simp only [vcS] <;> omega) | fail) only [↓ptV_l, ↓vcA, vcB, ↓vcD, vcE, ↓reduceIte, Nat.reduceEqDiff, Nat.reduceAdd, Nat.reduceMul, Nat.reduceLeDiff, Int.reduceLE, Int.reduceLT, Int.reduceEq, Int.reduceToNat, Int.reduceAdd, Int.reduceSub, Int.reduceMul, Int.reduceNeg, reduceCtorEq, Option.bind_some, Option.map_some, List.length_cons, List.length_nil, vcM, List.getElem?_toArray, List.getElem?_cons_zero, List.getElem?_cons_succ])
          (refine W_at c36_ok ?_; refine ⟨_, rfl, ?_⟩; simp (disch := first | omega | assumption | rfl | (simp only [vcS] <;> omega) | fail) only [↓ptV_l, ↓vcA, vcB, ↓vcD, vcE, ↓reduceIte, Nat.reduceEqDiff, Nat.reduceAdd, Nat.reduceMul, Nat.reduceLeDiff, Int.reduceLE, Int.reduceLT, Int.reduceEq, Int.reduceToNat, Int.reduceAdd, Int.reduceSub, Int.reduceMul, Int.reduceNeg, reduceCtorEq, Option.bind_some, Option.map_some, List.length_cons, List.length_nil, vcM, List.getElem?_toArray, List.getElem?_cons_zero, List.getElem?_cons_succ, hsub, h0d, Int.toNat_natCast, md, wx, ux])
          refine appNL (news := [valB P * 2 ^ (b - P.length)]) hN (by simp; omega) fun v1 w1 n1 _ _ => ?_
          first | (simp (disch := first | omega | assumption | rfl | (simp only [vcS] <;> omega) | fail) only [↓ptV_l, ↓vcA, vcB, ↓vcD, vcE, ↓reduceIte, Nat.reduceEqDiff, Nat.reduceAdd, Nat.reduceMul, Nat.reduceLeDiff, Int.reduceLE, Int.reduceLT, Int.reduceEq, Int.reduceToNat, Int.reduceAdd, Int.reduceSub, Int.reduceMul, Int.reduceNeg, reduceCtorEq, Option.bind_some, Option.map_some, List.length_cons, List.length_nil, vcM, List.getElem?_toArray, List.getElem?_cons_zero, List.getElem?_cons_succ]) | skip
          (refine W_at c36_ok ?_; refine ⟨_, rfl, ?_⟩; simp (disch := first | omega | assumption | rfl | (simp only [vcS] <;> omega) | fail) only [↓ptV_l, ↓vcA, vcB, ↓vcD, vcE, ↓reduceIte, Nat.reduceEqDiff, Nat.reduceAdd, Nat.reduceMul, Nat.reduceLeDiff, Int.reduceLE, Int.reduceLT, Int.reduceEq, Int.reduceToNat, Int.reduceAdd, Int.reduceSub, Int.reduceMul, Int.reduceNeg, reduceCtorEq, Option.bind_some, Option.map_some, List.length_cons, List.length_nil, vcM, List.getElem?_toArray, List.getElem?_cons_zero, List.getElem?_cons_succ])
          (refine W_at c36_ok ?_; refine ⟨_, rfl, ?_⟩; simp (disch := first | omega | assumption | rfl | (simp only [vcS] <;> omega) | fail) only [↓ptV_l, ↓vcA, vcB, ↓vcD, vcE, ↓reduceIte, Nat.reduceEqDiff, Nat.reduceAdd, Nat.reduceMul, Nat.reduceLeDiff, Int.reduceLE, Int.reduceLT, Int.reduceEq, Int.reduceToNat, Int.reduceAdd, Int.reduceSub, Int.reduceMul, Int.reduceNeg, reduceCtorEq, Option.bind_some, Option.map_some, List.length_cons, List.length_nil, vcM, List.getElem?_toArray, List.getElem?_cons_zero, List.getElem?_cons_succ, Ret_returned])
          exact ⟨_, rfl, n1⟩
      | false =>
        rw [if_neg (by decide)]
        have bad : ∀ (tl : Env), (P.length ≥ a ∨ valB P ≠ 0) → W Tryd.prog (Ret fun u w' => GrTo w w' (match (if P.length ≥ a ∨ valB P ≠ 0 then none else some G : Option (List Int)) with | none => ([], 3) | some x => (x, 0)) u) 36 5 tl wj := by
          intro tl hx
          rw [if_pos hx]
          (refine W_at c36_ok ?_; refine ⟨_, rfl, ?_⟩; simp (disch := first | omega | assumption | rfl | (simp only [vcS] <;> omega) | fail) only [↓ptV_l, ↓vcA, vcB, ↓vcD, vcE, ↓reduceIte, Nat.reduceEqDiff, Nat.reduceAdd, Nat.reduceMul, Nat.reduceLeDiff, Int.reduceLE, Int.reduceLT, Int.reduceEq, Int.reduceToNat, Int.reduceAdd, Int.reduceSub, Int.reduceMul, Int.reduceNeg, reduceCtorEq, Option.bind_some, Option.map_some, List.length_cons, List.length_nil, vcM, List.getElem?_toArray, List.getElem?_cons_zero, List.getElem?_cons_succ])
          (refine W_at c36_ok ?_; refine ⟨_, rfl, ?_⟩; simp (disch := first | omega | assumption | rfl | (simp only [vcS] <;> omega) | fail) only [↓ptV_l, ↓vcA, vcB, ↓vcD, vcE, ↓reduceIte, Nat.reduceEqDiff, Nat.reduceAdd, Nat.reduceMul, Nat.reduceLeDiff, Int.reduceLE, Int.reduceLT, Int.reduceEq, Int.reduceToNat, Int.reduceAdd, Int.reduceSub, Int.reduceMul, Int.reduceNeg, reduceCtorEq, Option.bind_some, Option.map_some, List.length_cons, List.length_nil, vcM, List.getElem?_toArray, List.getElem?_cons_zero, List.getElem?_cons_succ, Ret_returned])
          exact ⟨_, rfl, (New.nil wj).pre hN.ext⟩
        by_cases hn1 : (a : Int) ≤ (P.length : Nat)
        · (refine W_at c36_ok ?_; refine ⟨_, rfl, ?_⟩; simp (disch := first | omega | assumption | rfl | (simp only [vcS] <;> omega) | fail) only [↓ptV_l, ↓vcA, vcB, ↓vcD, vcE, ↓reduceIte, Nat.reduceEqDiff, Nat.reduceAdd, Nat.reduceMul, Nat.reduceLeDiff, Int.reduceLE, Int.reduceLT, Int.reduceEq, Int.reduceToNat, Int.reduceAdd, Int.reduceSub, Int.reduceMul, Int.reduceNeg, reduceCtorEq, Option.bind_some, Option.map_some, List.length_cons, List.length_nil, vcM, List.getElem?_toArray, List.getElem?_cons_zero, List.getElem?_cons_succ])
          (refine W_at c36_ok ?_; refine ⟨_, rfl, ?_⟩; simp (disch := first | omega | assumption | rfl | (simp only [vcS] <;> omega) | fail) only [↓ptV_l, ↓vcA, vcB, ↓vcD, vcE, ↓reduceIte, Nat.reduceEqDiff, Nat.reduceAdd, Nat.reduceMul, Nat.reduceLeDiff, Int.reduceLE, Int.reduceLT, Int.reduceEq, Int.reduceToNat, Int.reduceAdd, Int.reduceSub, Int.reduceMul, Int.reduceNeg, reduceCtorEq, Option.bind_some, Option.map_some, List.length_cons, List.length_nil, vcM, List.getElem?_toArray, List.getElem?_cons_zero, List.getElem?_cons_succ])
          (refine W_at c36_ok ?_; refine ⟨_, rfl, ?_⟩; simp (disch := first | omega | assumption | rfl | (simp only [vcS] <;> omega) | fail) only [↓ptV_l, ↓vcA, vcB, ↓vcD, vcE, ↓reduceIte, Nat.reduceEqDiff, Nat.reduceAdd, Nat.reduceMul, Nat.reduceLeDiff, Int.reduceLE, Int.reduceLT, Int.reduceEq, Int.reduceToNat, Int.reduceAdd, Int.reduceSub, Int.reduceMul, Int.reduceNeg, reduceCtorEq, Option.bind_some, Option.map_some, List.length_cons, List.length_nil, vcM, List.getElem?_toArray, List.getElem?_cons_zero, List.getElem?_cons_succ, hn1])
          (refine W_at c36_ok ?_; refine ⟨_, rfl, ?_⟩; simp (disch := first | omega | assumption | rfl | (simp only [vcS] <;> omega) | fail) only [↓ptV_l, ↓vcA, vcB, ↓vcD, vcE, ↓reduceIte, Nat.reduceEqDiff, Nat.reduceAdd, Nat.reduceMul, Nat.reduceLeDiff, Int.reduceLE, Int.reduceLT, Int.reduceEq, Int.reduceToNat, Int.reduceAdd, Int.reduceSub, Int.reduceMul, Int.reduceNeg, reduceCtorEq, Option.bind_some, Option.map_some, List.length_cons, List.length_nil, vcM, List.getElem?_toArray, List.getElem?_cons_zero, List.getElem?_cons_succ])
          exact bad _ (.inl (by omega))
        · by_cases hn2 : valB P = 0
          · have dz : decide (valB P = 0) = true := decide_eq_true hn2
            have hno : ¬ (P.length ≥ a ∨ valB P ≠ 0) := fun h => by
              rcases h with h | h
              · omega
              · exact h hn2
            rw [if_neg hno]
            (refine W_at c36_ok ?_; refine ⟨_, rfl, ?_⟩; simp (disch := first | omega | assumption | rfl | (simp only [vcS] <;> omega) | fail) only [↓ptV_l, ↓vcA, vcB, ↓vcD, vcE, ↓reduceIte, Nat.reduceEqDiff, Nat.reduceAdd, Nat.reduceMul, Nat.reduceLeDiff, Int.reduceLE, Int.reduceLT, Int.reduceEq, Int.reduceToNat, Int.reduceAdd, Int.reduceSub, Int.reduceMul, Int.reduceNeg, reduceCtorEq, Option.bind_some, Option.map_some, List.length_cons, List.length_nil, vcM, List.getElem?_toArray, List.getElem?_cons_zero, List.getElem?_cons_succ])
            (refine W_at c36_ok ?_; refine ⟨_, rfl, ?_⟩; simp (disch := first | omega | assumption | rfl | (simp only [vcS] <;> omega) | fail) only [↓ptV_l, ↓vcA, vcB, ↓vcD, vcE, ↓reduceIte, Nat.reduceEqDiff, Nat.reduceAdd, Nat.reduceMul, Nat.reduceLeDiff, Int.reduceLE, Int.reduceLT, Int.reduceEq, Int.reduceToNat, Int.reduceAdd, Int.reduceSub, Int.reduceMul, Int.reduceNeg, reduceCtorEq, Option.bind_some, Option.map_some, List.length_cons, List.length_nil, vcM, List.getElem?_toArray, List.getElem?_cons_zero, List.getElem?_cons_succ])
            (refine W_at c36_ok ?_; refine ⟨_, rfl, ?_⟩; simp (disch := first | omega | assumption | rfl | (simp only [vcS] <;> omega) | fail) only [↓ptV_l, ↓vcA, vcB, ↓vcD, vcE, ↓reduceIte, Nat.reduceEqDiff, Nat.reduceAdd, Nat.reduceMul, Nat.reduceLeDiff, Int.reduceLE, Int.reduceLT, Int.reduceEq, Int.reduceToNat, Int.reduceAdd, Int.reduceSub, Int.reduceMul, Int.reduceNeg, reduceCtorEq, Option.bind_some, Option.map_some, List.length_cons, List.length_nil, vcM, List.getElem?_toArray, List.getElem?_cons_zero, List.getElem?_cons_succ, hn1, dz])
            (refine W_at c36_ok ?_; refine ⟨_, rfl, ?_⟩; simp (disch := first | omega | assumption | rfl | (simp only [vcS] <;> omega) | fail) only [↓ptV_l, ↓vcA, vcB, ↓vcD, vcE, ↓reduceIte, Nat.reduceEqDiff, Nat.reduceAdd, Nat.reduceMul, Nat.reduceLeDiff, Int.reduceLE, Int.reduceLT, Int.reduceEq, Int.reduceToNat, Int.reduceAdd, Int.reduceSub, Int.reduceMul, Int.reduceNeg, reduceCtorEq, Option.bind_some, Option.map_some, List.length_cons, List.length_nil, vcM, List.getElem?_toArray, List.getElem?_cons_zero, List.getElem?_cons_succ])
            (refine W_at c36_ok ?_; refine ⟨_, rfl, ?_⟩; simp (disch := first | omega | assumption | rfl | (simp only [vcS] <;> omega) | fail) only [↓ptV_l, ↓vcA, vcB, ↓vcD, vcE, ↓reduceIte, Nat.reduceEqDiff, Nat.reduceAdd, Nat.reduceMul, Nat.reduceLeDiff, Int.reduceLE, Int.reduceLT, Int.reduceEq, Int.reduceToNat, Int.reduceAdd, Int.reduceSub, Int.reduceMul, Int.reduceNeg, reduceCtorEq, Option.bind_some, Option.map_some, List.length_cons, List.length_nil, vcM, List.getElem?_toArray, List.getElem?_cons_zero, List.getElem?_cons_succ])
            (refine W_at c36_ok ?_; refine ⟨_, rfl, ?_⟩; simp (disch := first | omega | assumption | rfl | (simp only [vcS] <;> omega) | fail) only [↓ptV_l, ↓vcA, vcB, ↓vcD, vcE, ↓reduceIte, Nat.reduceEqDiff, Nat.reduceAdd, Nat.reduceMul, Nat.reduceLeDiff, Int.reduceLE, Int.reduceLT, Int.reduceEq, Int.reduceToNat, Int.reduceAdd, Int.reduceSub, Int.reduceMul, Int.reduceNeg, reduceCtorEq, Option.bind_some, Option.map_some, List.length_cons, List.length_nil, vcM, List.getElem?_toArray, List.getElem?_cons_zero, List.getElem?_cons_succ, Ret_returned])
            exact ⟨_, rfl, hN⟩
          · have dz : decide (valB P = 0) = false := decide_eq_false hn2
            (refine W_at c36_ok ?_; refine ⟨_, rfl, ?_⟩; simp (disch := first | omega | assumption | rfl | (simp only [vcS] <;> omega) | fail) only [↓ptV_l, ↓vcA, vcB, ↓vcD, vcE, ↓reduceIte, Nat.reduceEqDiff, Nat.reduceAdd, Nat.reduceMul, Nat.reduceLeDiff, Int.reduceLE, Int.reduceLT, Int.reduceEq, Int.reduceToNat, Int.reduceAdd, Int.reduceSub, Int.reduceMul, Int.reduceNeg, reduceCtorEq, Option.bind_some, Option.map_some, List.length_cons, List.length_nil, vcM, List.getElem?_toArray, List.getElem?_cons_zero, List.getElem?_cons_succ])
            (refine W_at c36_ok ?_; refine ⟨_, rfl, ?_⟩; simp (disch := first | omega | assumption | rfl | (simp only [vcS] <;> omega) | fail) only [↓ptV_l, ↓vcA, vcB, ↓vcD, vcE, ↓reduceIte, Nat.reduceEqDiff, Nat.reduceAdd, Nat.reduceMul, Nat.reduceLeDiff, Int.reduceLE, Int.reduceLT, Int.reduceEq, Int.reduceToNat, Int.reduceAdd, Int.reduceSub, Int.reduceMul, Int.reduceNeg, reduceCtorEq, Option.bind_some, Option.map_some, List.length_cons, List.length_nil, vcM, List.getElem?_toArray, List.getElem?_cons_zero, List.getElem?_cons_succ])
            (refine W_at c36_ok ?_; refine ⟨_, rfl, ?_⟩; simp (disch := first | omega | assumption | rfl | (simp only [vcS] <;> omega) | fail) only [↓ptV_l, ↓vcA, vcB, ↓vcD, vcE, ↓reduceIte, Nat.reduceEqDiff, Nat.reduceAdd, Nat.reduceMul, Nat.reduceLeDiff, Int.reduceLE, Int.reduceLT, Int.reduceEq, Int.reduceToNat, Int.reduceAdd, Int.reduceSub, Int.reduceMul, Int.reduceNeg, reduceCtorEq, Option.bind_some, Option.map_some, List.length_cons, List.length_nil, vcM, List.getElem?_toArray, List.getElem?_cons_zero, List.getElem?_cons_succ, hn1, dz])
            (refine W_at c36_ok ?_; refine ⟨_, rfl, ?_⟩; simp (disch := first | omega | assumption | rfl | (simp only [vcS] <;> omega) | fail) only [↓ptV_l, ↓vcA, vcB, ↓vcD, vcE, ↓reduceIte, Nat.reduceEqDiff, Nat.reduceAdd, Nat.reduceMul, Nat.reduceLeDiff, Int.reduceLE, Int.reduceLT, Int.reduceEq, Int.reduceToNat, Int.reduceAdd, Int.reduceSub, Int.reduceMul, Int.reduceNeg, reduceCtorEq, Option.bind_some, Option.map_some, List.length_cons, List.length_nil, vcM, List.getElem?_toArray, List.getElem?_cons_zero, List.getElem?_cons_succ])
            exact bad _ (.inr hn2)
    | succ k ih =>
      intro i wj v10 z G P hi hN hGl hz hPb hzP hPl hg hf
      have hilt : i < bs.length := by omega
      have hil : (i : Int) < (bs.length : Int) := by omega
      have h0 : 0 ≤ (i : Int) := by omega
      have hwi : IntKind.i64.wrap ((i : Int) + 1) = ((i + 1 : Nat) : Int) := wrap_i64 (by omega) (by omega)
      have hRj := h.ext hN.ext
      obtain ⟨b0, o, c, hv, hcell⟩ := hRj.at hilt
      have hv' : v = .slice (some ⟨b0, o, none⟩) bs.length c := hv
      have b1 := hb bs[i] (List.getElem_mem _)
      have htake : bs.take (i + 1) = bs.take i ++ [bs[i]] := take_snoc hilt
      generalize hx : bs[i] = x at *
      subst hv'
      have w1 : IntKind.i64.wrap x = x := wrap_i64 (by omega) (by omega)
      (refine W_at c36_ok ?_; refine ⟨_, rfl, ?_⟩; simp (disch := first | omega | assumption | rfl | (simp only [vcS] <;> omega) | fail) only [↓ptV_l, ↓vcA, vcB, ↓vcD, vcE, ↓reduceIte, Nat.reduceEqDiff, Nat.reduceAdd, Nat.reduceMul, Nat.reduceLeDiff, Int.reduceLE, Int.reduceLT, Int.reduceEq, Int.reduceToNat, Int.reduceAdd, Int.reduceSub, Int.reduceMul, Int.reduceNeg, reduceCtorEq, Option.bind_some, Option.map_some, List.length_cons, List.length_nil, vcM, List.getElem?_toArray, List.getElem?_cons_zero, List.getElem?_cons_succ, hil])
      (refine W_at c36_ok ?_; refine ⟨_, rfl, ?_⟩; simp (disch := first | omega | assumption | rfl | (simp only [vcS] <;> omega) | fail) only [↓ptV_l, ↓vcA, vcB, ↓vcD, vcE, ↓reduceIte, Nat.reduceEqDiff, Nat.reduceAdd, Nat.reduceMul, Nat.reduceLeDiff, Int.reduceLE, Int.reduceLT, Int.reduceEq, Int.reduceToNat, Int.reduceAdd, Int.reduceSub, Int.reduceMul, Int.reduceNeg, reduceCtorEq, Option.bind_some, Option.map_some, List.length_cons, List.length_nil, vcM, List.getElem?_toArray, List.getElem?_cons_zero, List.getElem?_cons_succ])
      (refine W_at c36_ok ?_; refine ⟨_, rfl, ?_⟩; simp (disch := first | omega | assumption | rfl | (simp only [vcS] <;> omega) | fail) only [↓ptV_l, ↓vcA, vcB, ↓vcD, vcE, ↓reduceIte, Nat.reduceEqDiff, Nat.reduceAdd, Nat.reduceMul, Nat.reduceLeDiff, Int.reduceLE, Int.reduceLT, Int.reduceEq, Int.reduceToNat, Int.reduceAdd, Int.reduceSub, Int.reduceMul, Int.reduceNeg, reduceCtorEq, Option.bind_some, Option.map_some, List.length_cons, List.length_nil, vcM, List.getElem?_toArray, List.getElem?_cons_zero, List.getElem?_cons_succ, hil, h0, Int.toNat_natCast, Nat.mul_one, hcell])
      by_cases hv : x < 2 ^ a
      · have dz : decide (x / 2 ^ a = 0) = true := decide_eq_true ((shr_0 b1.1).2 hv)
        have hf2 : fits a (bs.take (i + 1)) := fun y hy => by
          rw [htake] at hy
          rcases List.mem_append.1 hy with hy | hy
          · exact hf y hy
          · rw [List.mem_singleton.1 hy]; exact hv
        have s1 : 0 ≤ z * 2 ^ a ∧ z * 2 ^ a + x < 9223372036854775808 := by
          have h5 : z * 2 ^ a ≤ 65535 * 256 := Int.mul_le_mul hz.2 pa8 (by omega) (by omega)
          exact ⟨Int.mul_nonneg hz.1 (by omega), by omega⟩
        have wz : IntKind.i64.wrap (z * 2 ^ a) = z * 2 ^ a := wrap_i64 (by omega) (by omega)
        have oz := or_is (a := z) (b := x) (n := a) hz.1 ⟨b1.1, hv⟩ s1.2
        have az := and_is (a := z * 2 ^ a + x) (n := 16) (by omega) (by decide)
        have e16 : (2 : Int) ^ 16 = 65536 := by decide
        rw [e16, show (65536 : Int) - 1 = 65535 from rfl] at az
        have wn : IntKind.i64.wrap ((P.length : Int) + (a : Int)) = ((P.length + a : Nat) : Int) := by rw [wrap_i64 (by omega) (by omega)]; omega
        have hpush := push_val hzP ⟨b1.1, hv⟩ (by omega)
        have hz' : 0 ≤ (z * 2 ^ a + x) % 65536 ∧ (z * 2 ^ a + x) % 65536 ≤ 65535 := by omega
        have hgr := groups_app (to := b) (by omega) _ (bitsF a (bs.take i)) (bitsV a x) (Nat.le_refl _)
        rw [hg] at hgr
        simp only at hgr
        have hbf : bitsF a (bs.take (i + 1)) = bitsF a (bs.take i) ++ bitsV a x := by rw [htake]; simp [bitsF]
        rw [← hbf] at hgr
        have hPb2 : bit (P ++ bitsV a x) := bit_app hPb (bitsV_bit a x)
        have hPl2 : (P ++ bitsV a x).length = P.length + a := by rw [List.length_append, bitsV_len]
        generalize (z * 2 ^ a + x) % 65536 = z2 at *
        generalize P ++ bitsV a x = Q at *
        (refine W_at c36_ok ?_; refine ⟨_, rfl, ?_⟩; simp (disch := first | omega | assumption | rfl | (simp only [vcS] <;> omega) | fail) only [↓ptV_l, ↓vcA, vcB, ↓vcD, vcE, ↓reduceIte, Nat.reduceEqDiff, Nat.reduceAdd, Nat.reduceMul, Nat.reduceLeDiff, Int.reduceLE, Int.reduceLT, Int.reduceEq, Int.reduceToNat, Int.reduceAdd, Int.reduceSub, Int.reduceMul, Int.reduceNeg, reduceCtorEq, Option.bind_some, Option.map_some, List.length_cons, List.length_nil, vcM, List.getElem?_toArray, List.getElem?_cons_zero, List.getElem?_cons_succ, w1, h0a, Int.toNat_natCast, ma, fdiv_2, dz])
        (refine W_at c36_ok ?_; refine ⟨_, rfl, ?_⟩; simp (disch := first | omega | assumption | rfl | (simp only [vcS] <;> omega) | fail) only [↓ptV_l, ↓vcA, vcB, ↓vcD, vcE, ↓reduceIte, Nat.reduceEqDiff, Nat.reduceAdd, Nat.reduceMul, Nat.reduceLeDiff, Int.reduceLE, Int.reduceLT, Int.reduceEq, Int.reduceToNat, Int.reduceAdd, Int.reduceSub, Int.reduceMul, Int.reduceNeg, reduceCtorEq, Option.bind_some, Option.map_some, List.length_cons, List.length_nil, vcM, List.getElem?_toArray, List.getElem?_cons_zero, List.getElem?_cons_succ])
        (refine W_at c36_ok ?_; refine ⟨_, rfl, ?_⟩; simp (disch := first | omega | assumption | rfl | (simp only [vcS] <;> omega) | fail) only [↓ptV_l, ↓vcA, vcB, ↓vcD, vcE, ↓reduceIte, Nat.reduceEqDiff, Nat.reduceAdd, Nat.reduceMul, Nat.reduceLeDiff, Int.reduceLE, Int.reduceLT, Int.reduceEq, Int.reduceToNat, Int.reduceAdd, Int.reduceSub, Int.reduceMul, Int.reduceNeg, reduceCtorEq, Option.bind_some, Option.map_some, List.length_cons, List.length_nil, vcM, List.getElem?_toArray, List.getElem?_cons_zero, List.getElem?_cons_succ, w1, h0a, Int.toNat_natCast, ma, wz, oz, az, wn])
        rw [← hPl2]
        have hQl : Q.length ≤ 15 := by omega
        have hQG : G.length + Q.length ≤ 8 * (i + 1) := by omega
        clear hPl2 wn az oz wz hzP hPl hPb
        have M : ∀ (m : Nat) (wk : World) (v11 : Value) (G1 Q1 : List Int), Q1.length ≤ m → Q1.length ≤ 15 → New w wk v11 G1 → G1.length + Q1.length ≤ 8 * (i + 1) → bit Q1 → z2 % 2 ^ Q1.length = valB Q1 → groups b (bitsF a (bs.take (i + 1))) = (G1 ++ (groups b Q1).1, (groups b Q1).2) →
            W Tryd.prog (Ret fun u w' => GrTo w w' (match regF bs a b pad with | none => ([], 3) | some x => (x, 0)) u) 36 17 [(1, .int .i64 a), (2, .int .i64 b), (3, .bool pad), (10, v11), (11, .int .i64 z2), (12, .int .i64 (Q1.length : Nat)), (30, .slice (some ⟨b0, o, none⟩) bs.length c), (31, .int .i64 bs.length), (32, .int .i64 i)] wk := by
          intro m
          induction m with
          | zero =>
            intro wk v11 G1 Q1 hm hm2 hN1 hGl1 hQb hzQ hgQ
            have hlt : Q1.length < b := by omega
            have hge : ¬ ((b : Int) ≤ (Q1.length : Nat)) := by omega
            rw [groups_lt hlt, List.append_nil] at hgQ
            (refine W_at c36_ok ?_; refine ⟨_, rfl, ?_⟩; simp (disch := first | omega | assumption | rfl | (simp only [vcS] <;> omega) | fail) only [↓ptV_l, ↓vcA, vcB, ↓vcD, vcE, ↓reduceIte, Nat.reduceEqDiff, Nat.reduceAdd, Nat.reduceMul, Nat.reduceLeDiff, Int.reduceLE, Int.reduceLT, Int.reduceEq, Int.reduceToNat, Int.reduceAdd, Int.reduceSub, Int.reduceMul, Int.reduceNeg, reduceCtorEq, Option.bind_some, Option.map_some, List.length_cons, List.length_nil, vcM, List.getElem?_toArray, List.getElem?_cons_zero, List.getElem?_cons_succ, hge])
            (refine W_at c36_ok ?_; refine ⟨_, rfl, ?_⟩; simp (disch := first | omega | assumption | rfl | (simp only [vcS] <;> omega) | fail) only [↓ptV_l, ↓vcA, vcB, ↓vcD, vcE, ↓reduceIte, Nat.reduceEqDiff, Nat.reduceAdd, Nat.reduceMul, Nat.reduceLeDiff, Int.reduceLE, Int.reduceLT, Int.reduceEq, Int.reduceToNat, Int.reduceAdd, Int.reduceSub, Int.reduceMul, Int.reduceNeg, reduceCtorEq, Option.bind_some, Option.map_some, List.length_cons, List.length_nil, vcM, List.getElem?_toArray, List.getElem?_cons_zero, List.getElem?_cons_succ])
            (refine W_at c36_ok ?_; refine ⟨_, rfl, ?_⟩; simp (disch := first | omega | assumption | rfl | (simp only [vcS] <;> omega) | fail) only [↓ptV_l, ↓vcA, vcB, ↓vcD, vcE, ↓reduceIte, Nat.reduceEqDiff, Nat.reduceAdd, Nat.reduceMul, Nat.reduceLeDiff, Int.reduceLE, Int.reduceLT, Int.reduceEq, Int.reduceToNat, Int.reduceAdd, Int.reduceSub, Int.reduceMul, Int.reduceNeg, reduceCtorEq, Option.bind_some, Option.map_some, List.length_cons, List.length_nil, vcM, List.getElem?_toArray, List.getElem?_cons_zero, List.getElem?_cons_succ, hwi])
            (refine W_at c36_ok ?_; refine ⟨_, rfl, ?_⟩; simp (disch := first | omega | assumption | rfl | (simp only [vcS] <;> omega) | fail) only [↓ptV_l, ↓vcA, vcB, ↓vcD, vcE, ↓reduceIte, Nat.reduceEqDiff, Nat.reduceAdd, Nat.reduceMul, Nat.reduceLeDiff, Int.reduceLE, Int.reduceLT, Int.reduceEq, Int.reduceToNat, Int.reduceAdd, Int.reduceSub, Int.reduceMul, Int.reduceNeg, reduceCtorEq, Option.bind_some, Option.map_some, List.length_cons, List.length_nil, vcM, List.getElem?_toArray, List.getElem?_cons_zero, List.getElem?_cons_succ])
            exact ih (i + 1) wk v11 z2 G1 Q1 (by omega) hN1 (by omega) hz' hQb hzQ hlt hgQ hf2
          | succ m ihm =>
            intro wk v11 G1 Q1 hm hm2 hN1 hGl1 hQb hzQ hgQ
            by_cases hlt : Q1.length < b
            · have hge : ¬ ((b : Int) ≤ (Q1.length : Nat)) := by omega
              rw [groups_lt hlt, List.append_nil] at hgQ
              (refine W_at c36_ok ?_; refine ⟨_, rfl, ?_⟩; simp (disch := first | omega | assumption | rfl | (simp only [vcS] <;> omega) | fail) only [↓ptV_l, ↓vcA, vcB, ↓vcD, vcE, ↓reduceIte, Nat.reduceEqDiff, Nat.reduceAdd, Nat.reduceMul, Nat.reduceLeDiff, Int.reduceLE, Int.reduceLT, Int.reduceEq, Int.reduceToNat, Int.reduceAdd, Int.reduceSub, Int.reduceMul, Int.reduceNeg, reduceCtorEq, Option.bind_some, Option.map_some, List.length_cons, List.length_nil, vcM, List.getElem?_toArray, List.getElem?_cons_zero, List.getElem?_cons_succ, hge])
              (refine W_at c36_ok ?_; refine ⟨_, rfl, ?_⟩; simp (disch := first | omega | assumption | rfl | (simp only [vcS] <;> omega) | fail) only [↓ptV_l, ↓vcA, vcB, ↓vcD, vcE, ↓reduceIte, Nat.reduceEqDiff, Nat.reduceAdd, Nat.reduceMul, Nat.reduceLeDiff, Int.reduceLE, Int.reduceLT, Int.reduceEq, Int.reduceToNat, Int.reduceAdd, Int.reduceSub, Int.reduceMul, Int.reduceNeg, reduceCtorEq, Option.bind_some, Option.map_some, List.length_cons, List.length_nil, vcM, List.getElem?_toArray, List.getElem?_cons_zero, List.getElem?_cons_succ])
              (refine W_at c36_ok ?_; refine ⟨_, rfl, ?_⟩; simp (disch := first | omega | assumption | rfl | (simp only [vcS] <;> omega) | fail) only [↓ptV_l, ↓vcA, vcB, ↓vcD, vcE, ↓reduceIte, Nat.reduceEqDiff, Nat.reduceAdd, Nat.reduceMul, Nat.reduceLeDiff, Int.reduceLE, Int.reduceLT, Int.reduceEq, Int.reduceToNat, Int.reduceAdd, Int.reduceSub, Int.reduceMul, Int.reduceNeg, reduceCtorEq, Option.bind_some, Option.map_some, List.length_cons, List.length_nil, vcM, List.getElem?_toArray, List.getElem?_cons_zero, List.getElem?_cons_succ, hwi])
              (refine W_at c36_ok ?_; refine ⟨_, rfl, ?_⟩; simp (disch := first | omega | assumption | rfl | (simp only [vcS] <;> omega) | fail) only [↓ptV_l, ↓vcA, vcB, ↓vcD, vcE, ↓reduceIte, Nat.reduceEqDiff, Nat.reduceAdd, Nat.reduceMul, Nat.reduceLeDiff, Int.reduceLE, Int.reduceLT, Int.reduceEq, Int.reduceToNat, Int.reduceAdd, Int.reduceSub, Int.reduceMul, Int.reduceNeg, reduceCtorEq, Option.bind_some, Option.map_some, List.length_cons, List.length_nil, vcM, List.getElem?_toArray, List.getElem?_cons_zero, List.getElem?_cons_succ])
              exact ih (i + 1) wk v11 z2 G1 Q1 (by omega) hN1 (by omega) hz' hQb hzQ hlt hgQ hf2
            · have hge : (b : Int) ≤ (Q1.length : Nat) := by omega
              have hge2 : b ≤ Q1.length := by omega
              rw [groups_ge (by omega) hge2] at hgQ
              obtain ⟨tv, dv⟩ := take_val hQb hzQ hge2
              have hsub : IntKind.i64.wrap ((Q1.length : Int) - (b : Nat)) = ((Q1.length - b : Nat) : Int) := by rw [wrap_i64 (by omega) (by omega)]; omega
              have h0d : 0 ≤ ((Q1.length - b : Nat) : Int) := by omega
              have md := min64 (n := Q1.length - b) (by omega)
              have hdiv : 0 ≤ z2 / 2 ^ (Q1.length - b) ∧ z2 / 2 ^ (Q1.length - b) < 9223372036854775808 := by
                have hp := pow_pos' (Q1.length - b)
                have h6 := Int.ediv_le_self (2 ^ (Q1.length - b)) hz'.1
                exact ⟨Int.ediv_nonneg hz'.1 (by omega), by omega⟩
              have an := and_is (a := z2 / 2 ^ (Q1.length - b)) (n := b) hdiv (by omega)
              rw [tv] at an
              have vb := valB_b (bit_take hQb b)
              rw [List.length_take, Nat.min_eq_left hge2] at vb
              have ux : IntKind.u8.wrap (valB (Q1.take b)) = valB (Q1.take b) := by rw [wrap_u8]; omega
              have hdl : (Q1.drop b).length = Q1.length - b := List.length_drop
              (refine W_at c36_ok ?_; refine ⟨_, rfl, ?_⟩; simp (disch := first | omega | assumption | rfl | (simp only [vcS] <;> omega) | fail) only [↓ptV_l, ↓vcA, vcB, ↓vcD, vcE, ↓reduceIte, Nat.reduceEqDiff, Nat.reduceAdd, Nat.reduceMul, Nat.reduceLeDiff, Int.reduceLE, Int.reduceLT, Int.reduceEq, Int.reduceToNat, Int.reduceAdd, Int.reduceSub, Int.reduceMul, Int.reduceNeg, reduceCtorEq, Option.bind_some, Option.map_some, List.length_cons, List.length_nil, vcM, List.getElem?_toArray, List.getElem?_cons_zero, List.getElem?_cons_succ, hge])
              (refine W_at c36_ok ?_; refine ⟨_, rfl, ?_⟩; simp (disch := first | omega | assumption | rfl | (simp only [vcS] <;> omega) | fail) only [↓ptV_l, ↓vcA, vcB, ↓vcD, vcE, ↓reduceIte, Nat.reduceEqDiff, Nat.reduceAdd, Nat.reduceMul, Nat.reduceLeDiff, Int.reduceLE, Int.reduceLT, Int.reduceEq, Int.reduceToNat, Int.reduceAdd, Int.reduceSub, Int.reduceMul, Int.reduceNeg, reduceCtorEq, Option.bind_some, Option.map_some, List.length_cons, List.length_nil, vcM, List.getElem?_toArray, List.getElem?_cons_zero, List.getElem?_cons_succ])
              (refine W_at c36_ok ?_; refine ⟨_, rfl, ?_⟩; simp (disch := first | omega | assumption | rfl | (simp only [vcS] <;> omega) | fail) only [↓ptV_l, ↓vcA, vcB, ↓vcD, vcE, ↓reduceIte, Nat.reduceEqDiff, Nat.reduceAdd, Nat.reduceMul, Nat.reduceLeDiff, Int.reduceLE, Int.reduceLT, Int.reduceEq, Int.reduceToNat, Int.reduceAdd, Int.reduceSub, Int.reduceMul, Int.reduceNeg, reduceCtorEq, Option.bind_some, Option.map_some, List.length_cons, List.length_nil, vcM, List.getElem?_toArray, List.getElem?_cons_zero, List.getElem?_cons_succ, hsub, h0d, h0b, Int.toNat_natCast, md, mb, fdiv_2, wb, wb1, an, ux])
              refine appNL (news := [valB (Q1.take b)]) (hN1.keep ((Keep.refl _ wk).drew)) (by simp; omega) fun v1 w1 n1 _ _ => ?_
              first | (simp (disch := first | omega | assumption | rfl | (simp only [vcS] <;> omega) | fail) only [↓ptV_l, ↓vcA, vcB, ↓vcD, vcE, ↓reduceIte, Nat.reduceEqDiff, Nat.reduceAdd, Nat.reduceMul, Nat.reduceLeDiff, Int.reduceLE, Int.reduceLT, Int.reduceEq, Int.reduceToNat, Int.reduceAdd, Int.reduceSub, Int.reduceMul, Int.reduceNeg, reduceCtorEq, Option.bind_some, Option.map_some, List.length_cons, List.length_nil, vcM, List.getElem?_toArray, List.getElem?_cons_zero, List.getElem?_cons_succ]) | skip
              (refine W_at c36_ok ?_; refine ⟨_, rfl, ?_⟩; simp (disch := first | omega | assumption | rfl | (simp only [vcS] <;> omega) | fail) only [↓ptV_l, ↓vcA, vcB, ↓vcD, vcE, ↓reduceIte, Nat.reduceEqDiff, Nat.reduceAdd, Nat.reduceMul, Nat.reduceLeDiff, Int.reduceLE, Int.reduceLT, Int.reduceEq, Int.reduceToNat, Int.reduceAdd, Int.reduceSub, Int.reduceMul, Int.reduceNeg, reduceCtorEq, Option.bind_some, Option.map_some, List.length_cons, List.length_nil, vcM, List.getElem?_toArray, List.getElem?_cons_zero, List.getElem?_cons_succ, hsub])
              (refine W_at c36_ok ?_; refine ⟨_, rfl, ?_⟩; simp (disch := first | omega | assumption | rfl | (simp only [vcS] <;> omega) | fail) only [↓ptV_l, ↓vcA, vcB, ↓vcD, vcE, ↓reduceIte, Nat.reduceEqDiff, Nat.reduceAdd, Nat.reduceMul, Nat.reduceLeDiff, Int.reduceLE, Int.reduceLT, Int.reduceEq, Int.reduceToNat, Int.reduceAdd, Int.reduceSub, Int.reduceMul, Int.reduceNeg, reduceCtorEq, Option.bind_some, Option.map_some, List.length_cons, List.length_nil, vcM, List.getElem?_toArray, List.getElem?_cons_zero, List.getElem?_cons_succ])
              rw [← hdl]
              exact ihm w1 v1 (G1 ++ [valB (Q1.take b)]) (Q1.drop b) (by omega) (by omega) n1 (by simp; omega) (bit_drop hQb b) (by rw [hdl]; exact dv) (by rw [hgQ]; simp)
        exact M Q.length wj v10 G Q (Nat.le_refl _) hQl hN hQG hPb2 hpush hgr
      · have dz : decide (x / 2 ^ a = 0) = false := decide_eq_false fun h => hv ((shr_0 b1.1).1 h)
        have hreg : regF bs a b pad = none := by
          unfold regF
          rw [if_neg]
          intro hff
          have := hff x (by rw [← hx]; exact List.getElem_mem _)
          exact hv this
        rw [hreg]
        (refine W_at c36_ok ?_; refine ⟨_, rfl, ?_⟩; simp (disch := first | omega | assumption | rfl | (simp only [vcS] <;> omega) | fail) only [↓ptV_l, ↓vcA, vcB, ↓vcD, vcE, ↓reduceIte, Nat.reduceEqDiff, Nat.reduceAdd, Nat.reduceMul, Nat.reduceLeDiff, Int.reduceLE, Int.reduceLT, Int.reduceEq, Int.reduceToNat, Int.reduceAdd, Int.reduceSub, Int.reduceMul, Int.reduceNeg, reduceCtorEq, Option.bind_some, Option.map_some, List.length_cons, List.length_nil, vcM, List.getElem?_toArray, List.getElem?_cons_zero, List.getElem?_cons_succ, w1, h0a, Int.toNat_natCast, ma, fdiv_2, dz])
        (refine W_at c36_ok ?_; refine ⟨_, rfl, ?_⟩; simp (disch := first | omega | assumption | rfl | (simp only [vcS] <;> omega) | fail) only [↓ptV_l, ↓vcA, vcB, ↓vcD, vcE, ↓reduceIte, Nat.reduceEqDiff, Nat.reduceAdd, Nat.reduceMul, Nat.reduceLeDiff, Int.reduceLE, Int.reduceLT, Int.reduceEq, Int.reduceToNat, Int.reduceAdd, Int.reduceSub, Int.reduceMul, Int.reduceNeg, reduceCtorEq, Option.bind_some, Option.map_some, List.length_cons, List.length_nil, vcM, List.getElem?_toArray, List.getElem?_cons_zero, List.getElem?_cons_succ])
        (refine W_at c36_ok ?_; refine ⟨_, rfl, ?_⟩; simp (disch := first | omega | assumption | rfl | (simp only [vcS] <;> omega) | fail) only [↓ptV_l, ↓vcA, vcB, ↓vcD, vcE, ↓reduceIte, Nat.reduceEqDiff, Nat.reduceAdd, Nat.reduceMul, Nat.reduceLeDiff, Int.reduceLE, Int.reduceLT, Int.reduceEq, Int.reduceToNat, Int.reduceAdd, Int.reduceSub, Int.reduceMul, Int.reduceNeg, reduceCtorEq, Option.bind_some, Option.map_some, List.length_cons, List.length_nil, vcM, List.getElem?_toArray, List.getElem?_cons_zero, List.getElem?_cons_succ])
        (refine W_at c36_ok ?_; refine ⟨_, rfl, ?_⟩; simp (disch := first | omega | assumption | rfl | (simp only [vcS] <;> omega) | fail) only [↓ptV_l, ↓vcA, vcB, ↓vcD, vcE, ↓reduceIte, Nat.reduceEqDiff, Nat.reduceAdd, Nat.reduceMul, Nat.reduceLeDiff, Int.reduceLE, Int.reduceLT, Int.reduceEq, Int.reduceToNat, Int.reduceAdd, Int.reduceSub, Int.reduceMul, Int.reduceNeg, reduceCtorEq, Option.bind_some, Option.map_some, List.length_cons, List.length_nil, vcM, List.getElem?_toArray, List.getElem?_cons_zero, List.getElem?_cons_succ, Ret_returned])
        exact ⟨_, rfl, (New.nil wj).pre hN.ext⟩
  exact L bs.length 0 w _ 0 [] [] (by omega) (New.nil w) (by simp) (by omega) (fun x hx => by cases hx) (by decide) (by simp; omega) (by simp [bitsF]; exact groups_lt (by simp; omega)) (fun x hx => by simp at hx)
end Go.Proofs
namespace Go.Proofs
open Go.Vc
set_option maxRecDepth 10000

theorem and1_u8 {x : Int} (h : 0 ≤ x ∧ x ≤ 255) : IntKind.u8.wrap (((BitVec.ofInt IntKind.u8.bits x &&& BitVec.ofInt IntKind.u8.bits 1).toNat : Nat) : Int) = x % 2 := by
  obtain ⟨n, rfl⟩ := Int.eq_ofNat_of_zero_le h.1
  have hd : ∀ n : Fin 256, IntKind.u8.wrap (((BitVec.ofInt IntKind.u8.bits ((n.val : Nat) : Int) &&& BitVec.ofInt IntKind.u8.bits 1).toNat : Nat) : Int) = ((n.val : Nat) : Int) % 2 := by decide +kernel
  exact hd ⟨n, by omega⟩
theorem rbits_ok (w : World) (v : Value) (bs : List Int) (n : Nat) (h : Rd w v bs) (hb : byt bs) (hl : bs.length ≤ 1000000) (hn : 1 ≤ n ∧ n ≤ 8) :
    Calls Tryd.prog 52 #[v, .int .i64 n] w (Ret fun u w' => New w w' u (bitsF n bs)) := by
  refine calls_of_cfg c52_ok (Nat.le_of_ble_eq_true rfl) ?_
  simp only [argE_nil, argE_cons, Nat.reduceAdd, Nat.zero_add]
  have hlen := h.len
  (refine W_at c52_ok ?_; refine ⟨_, rfl, ?_⟩; simp (disch := first | omega | assumption | rfl | (simp only [vcS] <;> omega) | fail) only [↓ptV_l, ↓vcA, vcB, ↓vcD, vcE, ↓reduceIte, Nat.reduceEqDiff, Nat.reduceAdd, Nat.reduceMul, Nat.reduceLeDiff, Int.reduceLE, Int.reduceLT, Int.reduceEq, Int.reduceToNat, Int.reduceAdd, Int.reduceSub, Int.reduceMul, Int.reduceNeg, reduceCtorEq, Option.bind_some, Option.map_some, List.length_cons, List.length_nil, vcM, List.getElem?_toArray, List.getElem?_cons_zero, List.getElem?_cons_succ])
  (refine W_at c52_ok ?_; refine ⟨_, rfl, ?_⟩; simp (disch := first | omega | assumption | rfl | (simp only [vcS] <;> omega) | fail) only [↓ptV_l, ↓vcA, vcB, ↓vcD, vcE, ↓reduceIte, Nat.reduceEqDiff, Nat.reduceAdd, Nat.reduceMul, Nat.reduceLeDiff, Int.reduceLE, Int.reduceLT, Int.reduceEq, Int.reduceToNat, Int.reduceAdd, Int.reduceSub, Int.reduceMul, Int.reduceNeg, reduceCtorEq, Option.bind_some, Option.map_some, List.length_cons, List.length_nil, vcM, List.getElem?_toArray, List.getElem?_cons_zero, List.getElem?_cons_succ])
  (refine W_at c52_ok ?_; refine ⟨_, rfl, ?_⟩; simp (disch := first | omega | assumption | rfl | (simp only [vcS] <;> omega) | fail) only [↓ptV_l, ↓vcA, vcB, ↓vcD, vcE, ↓reduceIte, Nat.reduceEqDiff, Nat.reduceAdd, Nat.reduceMul, Nat.reduceLeDiff, Int.reduceLE, Int.reduceLT, Int.reduceEq, Int.reduceToNat, Int.reduceAdd, Int.reduceSub, Int.reduceMul, Int.reduceNeg, reduceCtorEq, Option.bind_some, Option.map_some, List.length_cons, List.length_nil, vcM, List.getElem?_toArray, List.getElem?_cons_zero, List.getElem?_cons_succ])
  have L : ∀ (k i : Nat) (wj : World) (v5 : Value) (tl : Env), k + i = bs.length → New w wj v5 (bitsF n (bs.take i)) →
      W Tryd.prog (Ret fun u w' => New w w' u (bitsF n bs)) 52 12 ((0, v) :: (1, .int .i64 n) :: (5, v5) :: (6, .int .i64 i) :: tl) wj := by
    intro k
    induction k with
    | zero =>
      intro i wj v5 tl hi hN
      have hil : ¬ ((i : Int) < (bs.length : Int)) := by omega
      rw [List.take_of_length_le (by omega)] at hN
      (refine W_at c52_ok ?_; refine ⟨_, rfl, ?_⟩; simp (disch := first | omega | assumption | rfl | (simp only [vcS] <;> omega) | fail) only [↓ptV_l, ↓vcA, vcB, ↓vcD, vcE, ↓reduceIte, Nat.reduceEqDiff, Nat.reduceAdd, Nat.reduceMul, Nat.reduceLeDiff, Int.reduceLE, Int.reduceLT, Int.reduceEq, Int.reduceToNat, Int.reduceAdd, Int.reduceSub, Int.reduceMul, Int.reduceNeg, reduceCtorEq, Option.bind_some, Option.map_some, List.length_cons, List.length_nil, vcM, List.getElem?_toArray, List.getElem?_cons_zero, List.getElem?_cons_succ, hlen, hil])
      (refine W_at c52_ok ?_; refine ⟨_, rfl, ?_⟩; simp (disch := first | omega | assumption | rfl | (simp only [vcS] <;> omega) | fail) only [↓ptV_l, ↓vcA, vcB, ↓vcD, vcE, ↓reduceIte, Nat.reduceEqDiff, Nat.reduceAdd, Nat.reduceMul, Nat.reduceLeDiff, Int.reduceLE, Int.reduceLT, Int.reduceEq, Int.reduceToNat, Int.reduceAdd, Int.reduceSub, Int.reduceMul, Int.reduceNeg, reduceCtorEq, Option.bind_some, Option.map_some, List.length_cons, List.length_nil, vcM, List.getElem?_toArray, List.getElem?_cons_zero, List.getElem?_cons_succ])
      (refine W_at c52_ok ?_; refine ⟨_, rfl, ?_⟩; simp (disch := first | omega | assumption | rfl | (simp only [vcS] <;> omega) | fail) only [↓ptV_l, ↓vcA, vcB, ↓vcD, vcE, ↓reduceIte, Nat.reduceEqDiff, Nat.reduceAdd, Nat.reduceMul, Nat.reduceLeDiff, Int.reduceLE, Int.reduceLT, Int.reduceEq, Int.reduceToNat, Int.reduceAdd, Int.reduceSub, Int.reduceMul, Int.reduceNeg, reduceCtorEq, Option.bind_some, Option.map_some, List.length_cons, List.length_nil, vcM, List.getElem?_toArray, List.getElem?_cons_zero, List.getElem?_cons_succ])
      (refine W_at c52_ok ?_; refine ⟨_, rfl, ?_⟩; simp (disch := first | omega | assumption | rfl | (simp only [vcS] <;> omega) | fail) only [↓ptV_l, ↓vcA, vcB, ↓vcD, vcE, ↓reduceIte, Nat.reduceEqDiff, Nat.reduceAdd, Nat.reduceMul, Nat.reduceLeDiff, Int.reduceLE, Int.reduceLT, Int.reduceEq, Int.reduceToNat, Int.reduceAdd, Int.reduceSub, Int.reduceMul, Int.reduceNeg, reduceCtorEq, Option.bind_some, Option.map_some, List.length_cons, List.length_nil, vcM, List.getElem?_toArray, List.getElem?_cons_zero, List.getElem?_cons_succ, Ret_returned])
      exact hN
    | succ k ih =>
      intro i wj v5 tl hi hN
      have hilt : i < bs.length := by omega
      have hil : (i : Int) < (bs.length : Int) := by omega
      have h0 : 0 ≤ (i : Int) := by omega
      have hwi : IntKind.i64.wrap ((i : Int) + 1) = ((i + 1 : Nat) : Int) := wrap_i64 (by omega) (by omega)
      have hwn : IntKind.i64.wrap ((n : Int) - 1) = (n : Int) - 1 := wrap_i64 (by omega) (by omega)
      have b1 := hb bs[i] (List.getElem_mem _)
      have hlenb := bitsF_len n (bs.take i)
      rw [List.length_take, Nat.min_eq_left (by omega)] at hlenb
      have hlb : (bitsF n (bs.take i)).length ≤ i * 8 := by rw [hlenb]; exact Nat.mul_le_mul_left _ hn.2
      have hbf : bitsF n (bs.take (i + 1)) = bitsF n (bs.take i) ++ bitsV n bs[i] := by rw [bitsF, bitsF, take_snoc hilt, List.flatMap_append]; simp
      obtain ⟨b0, o, c, hv, _⟩ := h.at hilt
      have hv' : v = .slice (some ⟨b0, o, none⟩) bs.length c := hv
      have hcells : ∀ wz, Rd wz v bs → cellO wz.heap[b0]? (o + i) = some (.int .u8 bs[i]) := fun wz hz => by
        obtain ⟨b2, o2, c2, e, hc2⟩ := hz.at hilt
        rw [hv'] at e
        cases e
        exact hc2
      (refine W_at c52_ok ?_; refine ⟨_, rfl, ?_⟩; simp (disch := first | omega | assumption | rfl | (simp only [vcS] <;> omega) | fail) only [↓ptV_l, ↓vcA, vcB, ↓vcD, vcE, ↓reduceIte, Nat.reduceEqDiff, Nat.reduceAdd, Nat.reduceMul, Nat.reduceLeDiff, Int.reduceLE, Int.reduceLT, Int.reduceEq, Int.reduceToNat, Int.reduceAdd, Int.reduceSub, Int.reduceMul, Int.reduceNeg, reduceCtorEq, Option.bind_some, Option.map_some, List.length_cons, List.length_nil, vcM, List.getElem?_toArray, List.getElem?_cons_zero, List.getElem?_cons_succ, hlen, hil])
      (refine W_at c52_ok ?_; refine ⟨_, rfl, ?_⟩; simp (disch := first | omega | assumption | rfl | (simp only [vcS] <;> omega) | fail) only [↓ptV_l, ↓vcA, vcB, ↓vcD, vcE, ↓reduceIte, Nat.reduceEqDiff, Nat.reduceAdd, Nat.reduceMul, Nat.reduceLeDiff, Int.reduceLE, Int.reduceLT, Int.reduceEq, Int.reduceToNat, Int.reduceAdd, Int.reduceSub, Int.reduceMul, Int.reduceNeg, reduceCtorEq, Option.bind_some, Option.map_some, List.length_cons, List.length_nil, vcM, List.getElem?_toArray, List.getElem?_cons_zero, List.getElem?_cons_succ])
      (refine W_at c52_ok ?_; refine ⟨_, rfl, ?_⟩; simp (disch := first | omega | assumption | rfl | (simp only [vcS] <;> omega) | fail) only [↓ptV_l, ↓vcA, vcB, ↓vcD, vcE, ↓reduceIte, Nat.reduceEqDiff, Nat.reduceAdd, Nat.reduceMul, Nat.reduceLeDiff, Int.reduceLE, Int.reduceLT, Int.reduceEq, Int.reduceToNat, Int.reduceAdd, Int.reduceSub, Int.reduceMul, Int.reduceNeg, reduceCtorEq, Option.bind_some, Option.map_some, List.length_cons, List.length_nil, vcM, List.getElem?_toArray, List.getElem?_cons_zero, List.getElem?_cons_succ, hwn])
      generalize bs[i] = x at *
      have M : ∀ (m : Nat) (wk : World) (v5 : Value) (G : List Int) (tl : Env), m ≤ n → New w wk v5 G → G ++ bitsV m x = bitsF n (bs.take (i + 1)) → G.length + m ≤ i * 8 + 8 →
          W Tryd.prog (Ret fun u w' => New w w' u (bitsF n bs)) 52 9 ((0, v) :: (1, .int .i64 n) :: (5, v5) :: (6, .int .i64 i) :: (7, .int .i64 ((m : Int) - 1)) :: tl) wk := by
        intro m
        induction m with
        | zero =>
          intro wk v5 G tl hm hN hG _
          have hge : ¬ (0 ≤ ((0 : Nat) : Int) - 1) := by omega
          (refine W_at c52_ok ?_; refine ⟨_, rfl, ?_⟩; simp (disch := first | omega | assumption | rfl | (simp only [vcS] <;> omega) | fail) only [↓ptV_l, ↓vcA, vcB, ↓vcD, vcE, ↓reduceIte, Nat.reduceEqDiff, Nat.reduceAdd, Nat.reduceMul, Nat.reduceLeDiff, Int.reduceLE, Int.reduceLT, Int.reduceEq, Int.reduceToNat, Int.reduceAdd, Int.reduceSub, Int.reduceMul, Int.reduceNeg, reduceCtorEq, Option.bind_some, Option.map_some, List.length_cons, List.length_nil, vcM, List.getElem?_toArray, List.getElem?_cons_zero, List.getElem?_cons_succ, hge])
          (refine W_at c52_ok ?_; refine ⟨_, rfl, ?_⟩; simp (disch := first | omega | assumption | rfl | (simp only [vcS] <;> omega) | fail) only [↓ptV_l, ↓vcA, vcB, ↓vcD, vcE, ↓reduceIte, Nat.reduceEqDiff, Nat.reduceAdd, Nat.reduceMul, Nat.reduceLeDiff, Int.reduceLE, Int.reduceLT, Int.reduceEq, Int.reduceToNat, Int.reduceAdd, Int.reduceSub, Int.reduceMul, Int.reduceNeg, reduceCtorEq, Option.bind_some, Option.map_some, List.length_cons, List.length_nil, vcM, List.getElem?_toArray, List.getElem?_cons_zero, List.getElem?_cons_succ])
          (refine W_at c52_ok ?_; refine ⟨_, rfl, ?_⟩; simp (disch := first | omega | assumption | rfl | (simp only [vcS] <;> omega) | fail) only [↓ptV_l, ↓vcA, vcB, ↓vcD, vcE, ↓reduceIte, Nat.reduceEqDiff, Nat.reduceAdd, Nat.reduceMul, Nat.reduceLeDiff, Int.reduceLE, Int.reduceLT, Int.reduceEq, Int.reduceToNat, Int.reduceAdd, Int.reduceSub, Int.reduceMul, Int.reduceNeg, reduceCtorEq, Option.bind_some, Option.map_some, List.length_cons, List.length_nil, vcM, List.getElem?_toArray, List.getElem?_cons_zero, List.getElem?_cons_succ, hwi])
          (refine W_at c52_ok ?_; refine ⟨_, rfl, ?_⟩; simp (disch := first | omega | assumption | rfl | (simp only [vcS] <;> omega) | fail) only [↓ptV_l, ↓vcA, vcB, ↓vcD, vcE, ↓reduceIte, Nat.reduceEqDiff, Nat.reduceAdd, Nat.reduceMul, Nat.reduceLeDiff, Int.reduceLE, Int.reduceLT, Int.reduceEq, Int.reduceToNat, Int.reduceAdd, Int.reduceSub, Int.reduceMul, Int.reduceNeg, reduceCtorEq, Option.bind_some, Option.map_some, List.length_cons, List.length_nil, vcM, List.getElem?_toArray, List.getElem?_cons_zero, List.getElem?_cons_succ])
          rw [bitsV, List.append_nil] at hG
          rw [hG] at hN
          exact ih (i + 1) wk v5 _ (by omega) hN
        | succ m ihm =>
          intro wk v5 G tl hm hN hG hGl
          have e1 : ((m + 1 : Nat) : Int) - 1 = (m : Int) := by omega
          have hge : 0 ≤ (m : Int) := by omega
          have wm : IntKind.u64.wrap (m : Int) = (m : Int) := by rw [wrap_u64]; omega
          have wm1 : IntKind.i64.wrap ((m : Int) - 1) = (m : Int) - 1 := wrap_i64 (by omega) (by omega)
          have m8 := min8 (n := m) (by omega)
          have hc := hcells wk (h.ext hN.ext)
          have hp := pow_pos' m
          have hx2 : 0 ≤ x / 2 ^ m ∧ x / 2 ^ m ≤ 255 := by
            have := Int.ediv_le_self (2 ^ m) b1.1
            exact ⟨Int.ediv_nonneg b1.1 (by omega), by omega⟩
          have an := and1_u8 hx2
          rw [e1]
          subst hv'
          (refine W_at c52_ok ?_; refine ⟨_, rfl, ?_⟩; simp (disch := first | omega | assumption | rfl | (simp only [vcS] <;> omega) | fail) only [↓ptV_l, ↓vcA, vcB, ↓vcD, vcE, ↓reduceIte, Nat.reduceEqDiff, Nat.reduceAdd, Nat.reduceMul, Nat.reduceLeDiff, Int.reduceLE, Int.reduceLT, Int.reduceEq, Int.reduceToNat, Int.reduceAdd, Int.reduceSub, Int.reduceMul, Int.reduceNeg, reduceCtorEq, Option.bind_some, Option.map_some, List.length_cons, List.length_nil, vcM, List.getElem?_toArray, List.getElem?_cons_zero, List.getElem?_cons_succ, hge])
          (refine W_at c52_ok ?_; refine ⟨_, rfl, ?_⟩; simp (disch := first | omega | assumption | rfl | (simp only [vcS] <;> omega) | fail) only [↓ptV_l, ↓vcA, vcB, ↓vcD, vcE, ↓reduceIte, Nat.reduceEqDiff, Nat.reduceAdd, Nat.reduceMul, Nat.reduceLeDiff, Int.reduceLE, Int.reduceLT, Int.reduceEq, Int.reduceToNat, Int.reduceAdd, Int.reduceSub, Int.reduceMul, Int.reduceNeg, reduceCtorEq, Option.bind_some, Option.map_some, List.length_cons, List.length_nil, vcM, List.getElem?_toArray, List.getElem?_cons_zero, List.getElem?_cons_succ])
          (refine W_at c52_ok ?_; refine ⟨_, rfl, ?_⟩; simp (disch := first | omega | assumption | rfl | (simp only [vcS] <;> omega) | fail) only [↓ptV_l, ↓vcA, vcB, ↓vcD, vcE, ↓reduceIte, Nat.reduceEqDiff, Nat.reduceAdd, Nat.reduceMul, Nat.reduceLeDiff, Int.reduceLE, Int.reduceLT, Int.reduceEq, Int.reduceToNat, Int.reduceAdd, Int.reduceSub, Int.reduceMul, Int.reduceNeg, reduceCtorEq, Option.bind_some, Option.map_some, List.length_cons, List.length_nil, vcM, List.getElem?_toArray, List.getElem?_cons_zero, List.getElem?_cons_succ, hil, h0, Int.toNat_natCast, Nat.mul_one, hc, wm, hge, m8, fdiv_2, an])
          refine appNL (news := [x / 2 ^ m % 2]) hN (by simp; omega) fun v1 w1 n1 _ _ => ?_
          first | (simp (disch := first | omega | assumption | rfl | (simp only [vcS] <;> omega) | fail) only [↓ptV_l, ↓vcA, vcB, ↓vcD, vcE, ↓reduceIte, Nat.reduceEqDiff, Nat.reduceAdd, Nat.reduceMul, Nat.reduceLeDiff, Int.reduceLE, Int.reduceLT, Int.reduceEq, Int.reduceToNat, Int.reduceAdd, Int.reduceSub, Int.reduceMul, Int.reduceNeg, reduceCtorEq, Option.bind_some, Option.map_some, List.length_cons, List.length_nil, vcM, List.getElem?_toArray, List.getElem?_cons_zero, List.getElem?_cons_succ]) | skip
          (refine W_at c52_ok ?_; refine ⟨_, rfl, ?_⟩; simp (disch := first | omega | assumption | rfl | (simp only [vcS] <;> omega) | fail) only [↓ptV_l, ↓vcA, vcB, ↓vcD, vcE, ↓reduceIte, Nat.reduceEqDiff, Nat.reduceAdd, Nat.reduceMul, Nat.reduceLeDiff, Int.reduceLE, Int.reduceLT, Int.reduceEq, Int.reduceToNat, Int.reduceAdd, Int.reduceSub, Int.reduceMul, Int.reduceNeg, reduceCtorEq, Option.bind_some, Option.map_some, List.length_cons, List.length_nil, vcM, List.getElem?_toArray, List.getElem?_cons_zero, List.getElem?_cons_succ, wm1])
          (refine W_at c52_ok ?_; refine ⟨_, rfl, ?_⟩; simp (disch := first | omega | assumption | rfl | (simp only [vcS] <;> omega) | fail) only [↓ptV_l, ↓vcA, vcB, ↓vcD, vcE, ↓reduceIte, Nat.reduceEqDiff, Nat.reduceAdd, Nat.reduceMul, Nat.reduceLeDiff, Int.reduceLE, Int.reduceLT, Int.reduceEq, Int.reduceToNat, Int.reduceAdd, Int.reduceSub, Int.reduceMul, Int.reduceNeg, reduceCtorEq, Option.bind_some, Option.map_some, List.length_cons, List.length_nil, vcM, List.getElem?_toArray, List.getElem?_cons_zero, List.getElem?_cons_succ])
          exact ihm w1 v1 (G ++ [x / 2 ^ m % 2]) _ (by omega) n1 (by rw [← hG, bitsV]; simp) (by simp; omega)
      exact M n wj v5 _ _ (Nat.le_refl _) hN hbf.symm (by omega)
  exact L bs.length 0 w _ _ (by omega) (New.nil w)
end Go.Proofs
