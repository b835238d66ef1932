/- The pieces read again. -/
import Derived.Test.YthjgmajfkfhdaaaP4
set_option linter.unusedSimpArgs false
set_option linter.unusedVariables false
set_option linter.constructorNameAsVariable false
namespace Go.Proofs
open Go.Vc
set_option maxRecDepth 10000

theorem conf_bv : ∀ (n : Nat) (H : List Int), H.length = n → conf (List.replicate n (.i .u8)) (bv H) = true
  | 0, [], _ => rfl
  | n + 1, x :: H, h => by
    have ih := conf_bv n H (by simpa using h)
    simp only [List.replicate_succ, bv, List.map_cons, conf] at ih ⊢
    rw [ih, Bool.and_true]
    rfl
theorem eqc_bv : ∀ (H : List Int), eqc (bv H) (bv H) = true
  | [] => rfl
  | x :: H => by
    have ih := eqc_bv H
    simp only [bv, List.map_cons, eqc] at ih ⊢
    simp [ih]
theorem conf32 {H : List Int} (h : H.length = 32) : conf (skR [(32, .i .u8)]) (bv H).toArray.toList = true := conf_bv 32 H h
theorem eqc32 (H : List Int) : eqc (bv H).toArray.toList (bv H).toArray.toList = true := eqc_bv H
set_option maxHeartbeats 3200000 in
theorem readback (w : World) (parts : Value) (ps : List (List Int)) (ns : List Int) (hps : PrtAt w parts ps) (hns : ∀ n ∈ ns, 0 ≤ n ∧ n < 18446744073709551616) (K : Nat) (hK : K = min ps.length 12) (r B p15 p16 : Nat) (H : List Int) (hH : H.length = 32) (hr : w.heap.size ≤ r) (h15 : p15 ≠ r) (h16 : p16 ≠ r) :
    ∀ (k i : Nat) (wj : World) (v : Value) (tl : Env), k + i = K → Ext w wj → RAt wj r B v (encP ps ns i k) 0 → B < wj.heap.size → wj.heap[p15]? = some (.cells (bv H).toArray 39 (0, 0)) → wj.heap[p16]? = some (.cells (bv H).toArray 39 (0, 0)) →
      W Try.prog (Ret fun u w' => u = .bool true ∧ Ext w w') 3 12 ((0, parts) :: (15, .pointer (some ⟨p15, 0, none⟩)) :: (16, .pointer (some ⟨p16, 0, none⟩)) :: (17, .int .i64 0) :: (18, .pointer (some ⟨r, 0, none⟩)) :: (19, .int .i64 (i : Nat)) :: tl) wj := by
  intro k
  have hlen := hps.len
  induction k with
  | zero =>
    intro i wj v tl hi hE hR hB c15 c16
    obtain rfl : i = K := by omega
    have fin : ∀ tl, W Try.prog (Ret fun u w' => u = .bool true ∧ Ext w w') 3 2 ((0, parts) :: (15, .pointer (some ⟨p15, 0, none⟩)) :: (16, .pointer (some ⟨p16, 0, none⟩)) :: (17, .int .i64 0) :: (18, .pointer (some ⟨r, 0, none⟩)) :: tl) wj := by
      intro tl
      have hr32 : rdO (some (.cells (bv H).toArray 39 (0, 0))) 0 32 = some (bv H).toArray := rdO_all _ _ _ _ (by rw [bva_size, hH])
      have e1 := conf32 hH
      have e2 := eqc32 H
      (refine W_at c3_ok ?_; refine ⟨_, rfl, ?_⟩; simp (disch := first | omega | assumption | rfl | (simp only [vcS] <;> omega) | fail) only [↓ptV_l, ↓vcA, vcB, ↓vcD, vcE, ↓reduceIte, Nat.reduceEqDiff, Nat.reduceAdd, Nat.reduceMul, Nat.reduceLeDiff, Int.reduceLE, Int.reduceLT, Int.reduceEq, Int.reduceToNat, Int.reduceAdd, Int.reduceSub, Int.reduceMul, Int.reduceNeg, reduceCtorEq, Option.bind_some, Option.map_some, List.length_cons, List.length_nil, vcM, List.getElem?_toArray, List.getElem?_cons_zero, List.getElem?_cons_succ, c15, c16, hr32, e1, e2, Bool.false_xor])
      refine callV_ret (close_ok wj r B v _ 0 hR) ?_
      rintro _ _ ⟨rfl, rfl⟩
      first | (simp (disch := first | omega | assumption | rfl | (simp only [vcS] <;> omega) | fail) only [↓ptV_l, ↓vcA, vcB, ↓vcD, vcE, ↓reduceIte, Nat.reduceEqDiff, Nat.reduceAdd, Nat.reduceMul, Nat.reduceLeDiff, Int.reduceLE, Int.reduceLT, Int.reduceEq, Int.reduceToNat, Int.reduceAdd, Int.reduceSub, Int.reduceMul, Int.reduceNeg, reduceCtorEq, Option.bind_some, Option.map_some, List.length_cons, List.length_nil, vcM, List.getElem?_toArray, List.getElem?_cons_zero, List.getElem?_cons_succ]) | skip
      have ez : (if 0 < (encP ps ns i 0).length then (3 : Int) else 0) = 0 := by rw [if_neg]; unfold encP; simp
      rw [ez]
      (refine W_at c3_ok ?_; refine ⟨_, rfl, ?_⟩; simp (disch := first | omega | assumption | rfl | (simp only [vcS] <;> omega) | fail) only [↓ptV_l, ↓vcA, vcB, ↓vcD, vcE, ↓reduceIte, Nat.reduceEqDiff, Nat.reduceAdd, Nat.reduceMul, Nat.reduceLeDiff, Int.reduceLE, Int.reduceLT, Int.reduceEq, Int.reduceToNat, Int.reduceAdd, Int.reduceSub, Int.reduceMul, Int.reduceNeg, reduceCtorEq, Option.bind_some, Option.map_some, List.length_cons, List.length_nil, vcM, List.getElem?_toArray, List.getElem?_cons_zero, List.getElem?_cons_succ, Ret_returned])
      exact hE
    by_cases hil : (i : Int) < (ps.length : Nat)
    · have h12 : ¬ (i : Int) < 12 := by omega
      (refine W_at c3_ok ?_; refine ⟨_, rfl, ?_⟩; simp (disch := first | omega | assumption | rfl | (simp only [vcS] <;> omega) | fail) only [↓ptV_l, ↓vcA, vcB, ↓vcD, vcE, ↓reduceIte, Nat.reduceEqDiff, Nat.reduceAdd, Nat.reduceMul, Nat.reduceLeDiff, Int.reduceLE, Int.reduceLT, Int.reduceEq, Int.reduceToNat, Int.reduceAdd, Int.reduceSub, Int.reduceMul, Int.reduceNeg, reduceCtorEq, Option.bind_some, Option.map_some, List.length_cons, List.length_nil, vcM, List.getElem?_toArray, List.getElem?_cons_zero, List.getElem?_cons_succ, hlen, hil, h12])
      (refine W_at c3_ok ?_; refine ⟨_, rfl, ?_⟩; simp (disch := first | omega | assumption | rfl | (simp only [vcS] <;> omega) | fail) only [↓ptV_l, ↓vcA, vcB, ↓vcD, vcE, ↓reduceIte, Nat.reduceEqDiff, Nat.reduceAdd, Nat.reduceMul, Nat.reduceLeDiff, Int.reduceLE, Int.reduceLT, Int.reduceEq, Int.reduceToNat, Int.reduceAdd, Int.reduceSub, Int.reduceMul, Int.reduceNeg, reduceCtorEq, Option.bind_some, Option.map_some, List.length_cons, List.length_nil, vcM, List.getElem?_toArray, List.getElem?_cons_zero, List.getElem?_cons_succ])
      exact fin _
    · (refine W_at c3_ok ?_; refine ⟨_, rfl, ?_⟩; simp (disch := first | omega | assumption | rfl | (simp only [vcS] <;> omega) | fail) only [↓ptV_l, ↓vcA, vcB, ↓vcD, vcE, ↓reduceIte, Nat.reduceEqDiff, Nat.reduceAdd, Nat.reduceMul, Nat.reduceLeDiff, Int.reduceLE, Int.reduceLT, Int.reduceEq, Int.reduceToNat, Int.reduceAdd, Int.reduceSub, Int.reduceMul, Int.reduceNeg, reduceCtorEq, Option.bind_some, Option.map_some, List.length_cons, List.length_nil, vcM, List.getElem?_toArray, List.getElem?_cons_zero, List.getElem?_cons_succ, hlen, hil])
      (refine W_at c3_ok ?_; refine ⟨_, rfl, ?_⟩; simp (disch := first | omega | assumption | rfl | (simp only [vcS] <;> omega) | fail) only [↓ptV_l, ↓vcA, vcB, ↓vcD, vcE, ↓reduceIte, Nat.reduceEqDiff, Nat.reduceAdd, Nat.reduceMul, Nat.reduceLeDiff, Int.reduceLE, Int.reduceLT, Int.reduceEq, Int.reduceToNat, Int.reduceAdd, Int.reduceSub, Int.reduceMul, Int.reduceNeg, reduceCtorEq, Option.bind_some, Option.map_some, List.length_cons, List.length_nil, vcM, List.getElem?_toArray, List.getElem?_cons_zero, List.getElem?_cons_succ])
      exact fin _
  | succ k ih =>
    intro i wj v tl hi hE hR hB c15 c16
    have hil : (i : Int) < (ps.length : Nat) := by omega
    have h12 : (i : Int) < 12 := by omega
    have hi0 : i < ps.length := by omega
    have c3 : 0 ≤ (i : Int) ∧ (i : Int) < (ps.length : Nat) := by omega
    obtain ⟨b, o, c, x, rfl, hcell, hx⟩ := hps.at' i hi0
    have hxl := hx.len
    have hcp : cutP ps i = ps[i].take 400 := by unfold cutP; rw [List.getD_eq_getElem?_getD, List.getElem?_eq_getElem hi0]; rfl
    have hcb := cutP_byt (ps := ps) hps.byt i
    have hnb := numP_b hns (i := i) (by omega)
    have hEb := encP_b (ns := ns) hps.byt i (k + 1)
    have hEc := encP_b (ns := ns) hps.byt (i + 1) k
    (refine W_at c3_ok ?_; refine ⟨_, rfl, ?_⟩; simp (disch := first | omega | assumption | rfl | (simp only [vcS] <;> omega) | fail) only [↓ptV_l, ↓vcA, vcB, ↓vcD, vcE, ↓reduceIte, Nat.reduceEqDiff, Nat.reduceAdd, Nat.reduceMul, Nat.reduceLeDiff, Int.reduceLE, Int.reduceLT, Int.reduceEq, Int.reduceToNat, Int.reduceAdd, Int.reduceSub, Int.reduceMul, Int.reduceNeg, reduceCtorEq, Option.bind_some, Option.map_some, List.length_cons, List.length_nil, vcM, List.getElem?_toArray, List.getElem?_cons_zero, List.getElem?_cons_succ, hlen, hil, h12])
    (refine W_at c3_ok ?_; refine ⟨_, rfl, ?_⟩; simp (disch := first | omega | assumption | rfl | (simp only [vcS] <;> omega) | fail) only [↓ptV_l, ↓vcA, vcB, ↓vcD, vcE, ↓reduceIte, Nat.reduceEqDiff, Nat.reduceAdd, Nat.reduceMul, Nat.reduceLeDiff, Int.reduceLE, Int.reduceLT, Int.reduceEq, Int.reduceToNat, Int.reduceAdd, Int.reduceSub, Int.reduceMul, Int.reduceNeg, reduceCtorEq, Option.bind_some, Option.map_some, List.length_cons, List.length_nil, vcM, List.getElem?_toArray, List.getElem?_cons_zero, List.getElem?_cons_succ])
    (refine W_at c3_ok ?_; refine ⟨_, rfl, ?_⟩; simp (disch := first | omega | assumption | rfl | (simp only [vcS] <;> omega) | fail) only [↓ptV_l, ↓vcA, vcB, ↓vcD, vcE, ↓reduceIte, Nat.reduceEqDiff, Nat.reduceAdd, Nat.reduceMul, Nat.reduceLeDiff, Int.reduceLE, Int.reduceLT, Int.reduceEq, Int.reduceToNat, Int.reduceAdd, Int.reduceSub, Int.reduceMul, Int.reduceNeg, reduceCtorEq, Option.bind_some, Option.map_some, List.length_cons, List.length_nil, vcM, List.getElem?_toArray, List.getElem?_cons_zero, List.getElem?_cons_succ])
    refine callV_ret (rBytes_ok wj r B v _ 0 400 hR hB hEb.1 (by omega)) ?_
    rintro u w1 hT
    first | (simp (disch := first | omega | assumption | rfl | (simp only [vcS] <;> omega) | fail) only [↓ptV_l, ↓vcA, vcB, ↓vcD, vcE, ↓reduceIte, Nat.reduceEqDiff, Nat.reduceAdd, Nat.reduceMul, Nat.reduceLeDiff, Int.reduceLE, Int.reduceLT, Int.reduceEq, Int.reduceToNat, Int.reduceAdd, Int.reduceSub, Int.reduceMul, Int.reduceNeg, reduceCtorEq, Option.bind_some, Option.map_some, List.length_cons, List.length_nil, vcM, List.getElem?_toArray, List.getElem?_cons_zero, List.getElem?_cons_succ]) | skip
    obtain ⟨⟨hu1, hu2⟩, v1, hR1⟩ := hT.ok rfl (cutP ps i) (lowF 8 (numP ns i) ++ encP ps ns (i + 1) k) (by rw [encP_cons, piece_bytR])
    have hk1 := hT.keep
    have hE1 : Ext w w1 := hE.trans hk1 fun g hg e => by omega
    have d15 := hk1.at c15 h15
    have d16 := hk1.at c16 h16
    have hcell1 := cell_ext hcell hE1
    have hB1 := Nat.lt_of_lt_of_le hB hk1.size
    have hx1 := hx.ext hE1
    have go : ∀ tl, W Try.prog (Ret fun u w' => u = .bool true ∧ Ext w w') 3 5 ((0, .slice (some ⟨b, o, none⟩) ps.length c) :: (15, .pointer (some ⟨p15, 0, none⟩)) :: (16, .pointer (some ⟨p16, 0, none⟩)) :: (17, .int .i64 0) :: (18, .pointer (some ⟨r, 0, none⟩)) :: (19, .int .i64 (i : Nat)) :: tl) w1 := by
      intro tl
      (refine W_at c3_ok ?_; refine ⟨_, rfl, ?_⟩; simp (disch := first | omega | assumption | rfl | (simp only [vcS] <;> omega) | fail) only [↓ptV_l, ↓vcA, vcB, ↓vcD, vcE, ↓reduceIte, Nat.reduceEqDiff, Nat.reduceAdd, Nat.reduceMul, Nat.reduceLeDiff, Int.reduceLE, Int.reduceLT, Int.reduceEq, Int.reduceToNat, Int.reduceAdd, Int.reduceSub, Int.reduceMul, Int.reduceNeg, reduceCtorEq, Option.bind_some, Option.map_some, List.length_cons, List.length_nil, vcM, List.getElem?_toArray, List.getElem?_cons_zero, List.getElem?_cons_succ])
      refine callV_ret (ru64_ok w1 r B v1 _ 0 hR1 hB1 (byt_app (lowF_byt _ _) hEc.1)) ?_
      rintro u2 w2 hT2
      first | (simp (disch := first | omega | assumption | rfl | (simp only [vcS] <;> omega) | fail) only [↓ptV_l, ↓vcA, vcB, ↓vcD, vcE, ↓reduceIte, Nat.reduceEqDiff, Nat.reduceAdd, Nat.reduceMul, Nat.reduceLeDiff, Int.reduceLE, Int.reduceLT, Int.reduceEq, Int.reduceToNat, Int.reduceAdd, Int.reduceSub, Int.reduceMul, Int.reduceNeg, reduceCtorEq, Option.bind_some, Option.map_some, List.length_cons, List.length_nil, vcM, List.getElem?_toArray, List.getElem?_cons_zero, List.getElem?_cons_succ]) | skip
      obtain ⟨_, v2, hR2⟩ := hT2.ok rfl (numP ns i) (encP ps ns (i + 1) k) (num_enc 8 _ _ hnb.1 (by have := hnb.2; omega))
      have hk2 := hT2.keep
      have wi : IntKind.i64.wrap ((i : Int) + 1) = ((i + 1 : Nat) : Int) := wrap_i64 (by omega) (by omega)
      (refine W_at c3_ok ?_; refine ⟨_, rfl, ?_⟩; simp (disch := first | omega | assumption | rfl | (simp only [vcS] <;> omega) | fail) only [↓ptV_l, ↓vcA, vcB, ↓vcD, vcE, ↓reduceIte, Nat.reduceEqDiff, Nat.reduceAdd, Nat.reduceMul, Nat.reduceLeDiff, Int.reduceLE, Int.reduceLT, Int.reduceEq, Int.reduceToNat, Int.reduceAdd, Int.reduceSub, Int.reduceMul, Int.reduceNeg, reduceCtorEq, Option.bind_some, Option.map_some, List.length_cons, List.length_nil, vcM, List.getElem?_toArray, List.getElem?_cons_zero, List.getElem?_cons_succ, wi])
      (refine W_at c3_ok ?_; refine ⟨_, rfl, ?_⟩; simp (disch := first | omega | assumption | rfl | (simp only [vcS] <;> omega) | fail) only [↓ptV_l, ↓vcA, vcB, ↓vcD, vcE, ↓reduceIte, Nat.reduceEqDiff, Nat.reduceAdd, Nat.reduceMul, Nat.reduceLeDiff, Int.reduceLE, Int.reduceLT, Int.reduceEq, Int.reduceToNat, Int.reduceAdd, Int.reduceSub, Int.reduceMul, Int.reduceNeg, reduceCtorEq, Option.bind_some, Option.map_some, List.length_cons, List.length_nil, vcM, List.getElem?_toArray, List.getElem?_cons_zero, List.getElem?_cons_succ])
      exact ih (i + 1) w2 v2 _ (by omega) (hE1.trans hk2 fun g hg e => by omega) hR2 (Nat.lt_of_lt_of_le hB1 hk2.size) (hk2.at d15 h15) (hk2.at d16 h16)
    by_cases hg : (ps[i].length : Int) ≤ 400
    · have e4 : cutP ps i = ps[i] := by rw [hcp, List.take_of_length_le (by omega)]
      (refine W_at c3_ok ?_; refine ⟨_, rfl, ?_⟩; simp (disch := first | omega | assumption | rfl | (simp only [vcS] <;> omega) | fail) only [↓ptV_l, ↓vcA, vcB, ↓vcD, vcE, ↓reduceIte, Nat.reduceEqDiff, Nat.reduceAdd, Nat.reduceMul, Nat.reduceLeDiff, Int.reduceLE, Int.reduceLT, Int.reduceEq, Int.reduceToNat, Int.reduceAdd, Int.reduceSub, Int.reduceMul, Int.reduceNeg, reduceCtorEq, Option.bind_some, Option.map_some, List.length_cons, List.length_nil, vcM, List.getElem?_toArray, List.getElem?_cons_zero, List.getElem?_cons_succ, c3, Int.toNat_natCast, Nat.mul_one, hcell1, hxl, hg])
      refine callV_ret (equal_ok w1 u x _ _ hu1.rd hx1 hcb (hps.byt _ (List.getElem_mem hi0))) ?_
      rintro _ _ ⟨rfl, rfl⟩
      first | (simp (disch := first | omega | assumption | rfl | (simp only [vcS] <;> omega) | fail) only [↓ptV_l, ↓vcA, vcB, ↓vcD, vcE, ↓reduceIte, Nat.reduceEqDiff, Nat.reduceAdd, Nat.reduceMul, Nat.reduceLeDiff, Int.reduceLE, Int.reduceLT, Int.reduceEq, Int.reduceToNat, Int.reduceAdd, Int.reduceSub, Int.reduceMul, Int.reduceNeg, reduceCtorEq, Option.bind_some, Option.map_some, List.length_cons, List.length_nil, vcM, List.getElem?_toArray, List.getElem?_cons_zero, List.getElem?_cons_succ]) | skip
      have e5 : decide (cutP ps i = ps[i]) = true := decide_eq_true e4
      rw [e5]
      (refine W_at c3_ok ?_; refine ⟨_, rfl, ?_⟩; simp (disch := first | omega | assumption | rfl | (simp only [vcS] <;> omega) | fail) only [↓ptV_l, ↓vcA, vcB, ↓vcD, vcE, ↓reduceIte, Nat.reduceEqDiff, Nat.reduceAdd, Nat.reduceMul, Nat.reduceLeDiff, Int.reduceLE, Int.reduceLT, Int.reduceEq, Int.reduceToNat, Int.reduceAdd, Int.reduceSub, Int.reduceMul, Int.reduceNeg, reduceCtorEq, Option.bind_some, Option.map_some, List.length_cons, List.length_nil, vcM, List.getElem?_toArray, List.getElem?_cons_zero, List.getElem?_cons_succ])
      exact go _
    · (refine W_at c3_ok ?_; refine ⟨_, rfl, ?_⟩; simp (disch := first | omega | assumption | rfl | (simp only [vcS] <;> omega) | fail) only [↓ptV_l, ↓vcA, vcB, ↓vcD, vcE, ↓reduceIte, Nat.reduceEqDiff, Nat.reduceAdd, Nat.reduceMul, Nat.reduceLeDiff, Int.reduceLE, Int.reduceLT, Int.reduceEq, Int.reduceToNat, Int.reduceAdd, Int.reduceSub, Int.reduceMul, Int.reduceNeg, reduceCtorEq, Option.bind_some, Option.map_some, List.length_cons, List.length_nil, vcM, List.getElem?_toArray, List.getElem?_cons_zero, List.getElem?_cons_succ, c3, Int.toNat_natCast, Nat.mul_one, hcell1, hxl, hg])
      (refine W_at c3_ok ?_; refine ⟨_, rfl, ?_⟩; simp (disch := first | omega | assumption | rfl | (simp only [vcS] <;> omega) | fail) only [↓ptV_l, ↓vcA, vcB, ↓vcD, vcE, ↓reduceIte, Nat.reduceEqDiff, Nat.reduceAdd, Nat.reduceMul, Nat.reduceLeDiff, Int.reduceLE, Int.reduceLT, Int.reduceEq, Int.reduceToNat, Int.reduceAdd, Int.reduceSub, Int.reduceMul, Int.reduceNeg, reduceCtorEq, Option.bind_some, Option.map_some, List.length_cons, List.length_nil, vcM, List.getElem?_toArray, List.getElem?_cons_zero, List.getElem?_cons_succ])
      exact go _
end Go.Proofs
