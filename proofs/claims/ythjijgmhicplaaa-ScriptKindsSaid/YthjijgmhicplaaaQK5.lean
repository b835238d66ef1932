/- 'strongboxlaw11.ScriptKinds' returns true for every input, and the input reads as it did. No condition. -/
import Derived.Test.YthjijgmhicplaaaQK4
import Derived.Test.YthjijgmhicplaaaRows
set_option linter.unusedSimpArgs false
set_option linter.unusedVariables false
set_option linter.constructorNameAsVariable false
namespace Go.Proofs
open Go.Vc
set_option maxRecDepth 10000

theorem code_byt : ∀ (os : List OE) (s : List Int), byt s → parse s = some os → ∀ o ∈ os, 0 ≤ o.1 ∧ o.1 ≤ 255
  | [], _, _, _, o, ho => (by cases ho)
  | o0 :: os, s, hb, h, o, ho => by
    obtain ⟨rest, h1, h2, h3⟩ := op_cons hb h
    obtain ⟨_, _, _, _, _, _, hh⟩ := opR_drop hb h1
    rcases List.mem_cons.1 ho with rfl | ho
    · exact hb _ (List.mem_of_mem_head? hh)
    · exact code_byt os rest h3 h2 o ho
def cd (ts : List TE) (i : Nat) : Int := ((opsOf ts).getD i (0, [])).1
theorem cd_at {ts : List TE} {i : Nat} (h : i < ts.length) : cd ts i = ts[i].1 := by
  simp [cd, opsOf, List.getD, h]
theorem rmF_ts {s : List Int} {ts : List TE} (hp : parse s = some (opsOf ts)) : rmF s = if 4 ≤ ts.length ∧ ts.length ≤ 19 ∧ 1 ≤ smallF (cd ts 0) ∧ smallF (cd ts 0) ≤ ((ts.length - 3 : Nat) : Int) ∧ smallF (cd ts (ts.length - 2)) = ((ts.length - 3 : Nat) : Int) ∧ cd ts (ts.length - 1) = 174 ∧ ((ts.drop 1).take (ts.length - 3)).all (fun t => t.1 == 33) = true
    then some ([smallF (cd ts 0)] :: ((ts.drop 1).take (ts.length - 3)).map (·.2.1)) else none := by
  have hl : (opsOf ts).length = ts.length := by simp [opsOf]
  have h1 : ((opsOf ts).drop 1).take (ts.length - 3) = ((ts.drop 1).take (ts.length - 3)).map (fun t => (t.1, t.2.1)) := by
    rw [opsOf, ← List.map_drop, ← List.map_take]
  rw [rmF, hp]
  simp only [hl, h1]
  have h2 : (((ts.drop 1).take (ts.length - 3)).map (fun t => ((t.1, t.2.1) : OE))).all (fun o => o.1 == 33) = ((ts.drop 1).take (ts.length - 3)).all (fun t => t.1 == 33) := by rw [List.all_map]; rfl
  have h3 : (((ts.drop 1).take (ts.length - 3)).map (fun t => ((t.1, t.2.1) : OE))).map (·.2) = ((ts.drop 1).take (ts.length - 3)).map (·.2.1) := by rw [List.map_map]; rfl
  rw [h2, h3]
  rfl
set_option maxHeartbeats 6400000 in
theorem rk_keys {w w2 : World} {x : Value} {s : List Int} (hx : Rd w2 x s) (hb : byt s) (hl : s.length ≤ 1000000) (hE : Ext w w2) (m0 : Nat) (v : Value) (ts : List TE) (hO : OpsAt m0 38 w2 v ts) (k : Nat) (hk1 : 1 ≤ k) (hk16 : k ≤ 16) (hkl : ts.length = k + 3) (sm : Int) (h0 : Value)
    (hyes : ((ts.drop 1).take k).all (fun t => t.1 == 33) = true → kindG s = (5, [sm] :: ((ts.drop 1).take k).map (·.2.1))) (hno : ((ts.drop 1).take k).all (fun t => t.1 == 33) = false → kindG s = if preB s [106] && pushesF (s.drop 1) then (6, [s.drop 1]) else (0, [])) (v0 : Value) (hv0 : ∀ g, blk v0 g → w2.heap.size ≤ g) :
    ∀ (j a : Nat) (wj : World) (out : Value) (tl : Env), a + j = k → PtsAt 0 wj out (([sm], v0) :: ((ts.drop 1).take a).map fun t => (t.2.1, t.2.2)) → Ext w2 wj → (∀ g, blk out g → w2.heap.size ≤ g) →
      W Try.prog (Ret fun u w' => RKindTo w w' s u) 21 16 ((0, x) :: (4, .int .i64 (s.length : Nat)) :: (7, v) :: (9, .int .i64 (k : Nat)) :: (10, out) :: (11, .bool (((ts.drop 1).take a).all fun t => t.1 == 33)) :: (12, .int .i64 ((a + 1 : Nat) : Int)) :: tl) wj := by
  intro j
  induction j with
  | zero =>
    intro a wj out tl ha hP hEj hob
    obtain rfl : a = k := by omega
    have hlt : ¬ (((a + 1 : Nat) : Int) ≤ (a : Nat)) := by omega
    cases hg : ((ts.drop 1).take a).all (fun t => t.1 == 33) with
    | true =>
      have hkg := hyes hg
      (refine W_at c21_ok ?_; refine ⟨_, rfl, ?_⟩; simp (disch := first | omega | assumption | rfl | (simp only [vcS] <;> omega) | fail) only [↓ptV_l, ↓vcA, vcB, ↓vcD, vcE, ↓reduceIte, Nat.reduceEqDiff, Nat.reduceAdd, Nat.reduceMul, Nat.reduceLeDiff, Int.reduceLE, Int.reduceLT, Int.reduceEq, Int.reduceToNat, Int.reduceAdd, Int.reduceSub, Int.reduceMul, Int.reduceNeg, reduceCtorEq, Option.bind_some, Option.map_some, List.length_cons, List.length_nil, vcM, List.getElem?_toArray, List.getElem?_cons_zero, List.getElem?_cons_succ, hlt])
      (refine W_at c21_ok ?_; refine ⟨_, rfl, ?_⟩; simp (disch := first | omega | assumption | rfl | (simp only [vcS] <;> omega) | fail) only [↓ptV_l, ↓vcA, vcB, ↓vcD, vcE, ↓reduceIte, Nat.reduceEqDiff, Nat.reduceAdd, Nat.reduceMul, Nat.reduceLeDiff, Int.reduceLE, Int.reduceLT, Int.reduceEq, Int.reduceToNat, Int.reduceAdd, Int.reduceSub, Int.reduceMul, Int.reduceNeg, reduceCtorEq, Option.bind_some, Option.map_some, List.length_cons, List.length_nil, vcM, List.getElem?_toArray, List.getElem?_cons_zero, List.getElem?_cons_succ])
      (refine W_at c21_ok ?_; refine ⟨_, rfl, ?_⟩; simp (disch := first | omega | assumption | rfl | (simp only [vcS] <;> omega) | fail) only [↓ptV_l, ↓vcA, vcB, ↓vcD, vcE, ↓reduceIte, Nat.reduceEqDiff, Nat.reduceAdd, Nat.reduceMul, Nat.reduceLeDiff, Int.reduceLE, Int.reduceLT, Int.reduceEq, Int.reduceToNat, Int.reduceAdd, Int.reduceSub, Int.reduceMul, Int.reduceNeg, reduceCtorEq, Option.bind_some, Option.map_some, List.length_cons, List.length_nil, vcM, List.getElem?_toArray, List.getElem?_cons_zero, List.getElem?_cons_succ])
      (refine W_at c21_ok ?_; refine ⟨_, rfl, ?_⟩; simp (disch := first | omega | assumption | rfl | (simp only [vcS] <;> omega) | fail) only [↓ptV_l, ↓vcA, vcB, ↓vcD, vcE, ↓reduceIte, Nat.reduceEqDiff, Nat.reduceAdd, Nat.reduceMul, Nat.reduceLeDiff, Int.reduceLE, Int.reduceLT, Int.reduceEq, Int.reduceToNat, Int.reduceAdd, Int.reduceSub, Int.reduceMul, Int.reduceNeg, reduceCtorEq, Option.bind_some, Option.map_some, List.length_cons, List.length_nil, vcM, List.getElem?_toArray, List.getElem?_cons_zero, List.getElem?_cons_succ])
      (refine W_at c21_ok ?_; refine ⟨_, rfl, ?_⟩; simp (disch := first | omega | assumption | rfl | (simp only [vcS] <;> omega) | fail) only [↓ptV_l, ↓vcA, vcB, ↓vcD, vcE, ↓reduceIte, Nat.reduceEqDiff, Nat.reduceAdd, Nat.reduceMul, Nat.reduceLeDiff, Int.reduceLE, Int.reduceLT, Int.reduceEq, Int.reduceToNat, Int.reduceAdd, Int.reduceSub, Int.reduceMul, Int.reduceNeg, reduceCtorEq, Option.bind_some, Option.map_some, List.length_cons, List.length_nil, vcM, List.getElem?_toArray, List.getElem?_cons_zero, List.getElem?_cons_succ])
      (refine W_at c21_ok ?_; refine ⟨_, rfl, ?_⟩; simp (disch := first | omega | assumption | rfl | (simp only [vcS] <;> omega) | fail) only [↓ptV_l, ↓vcA, vcB, ↓vcD, vcE, ↓reduceIte, Nat.reduceEqDiff, Nat.reduceAdd, Nat.reduceMul, Nat.reduceLeDiff, Int.reduceLE, Int.reduceLT, Int.reduceEq, Int.reduceToNat, Int.reduceAdd, Int.reduceSub, Int.reduceMul, Int.reduceNeg, reduceCtorEq, Option.bind_some, Option.map_some, List.length_cons, List.length_nil, vcM, List.getElem?_toArray, List.getElem?_cons_zero, List.getElem?_cons_succ, Ret_returned])
      have hpp := hP.parts
      have hmm : ((([sm], v0) :: ((ts.drop 1).take a).map fun t => ((t.2.1, t.2.2) : PE))).map (·.1) = [sm] :: ((ts.drop 1).take a).map (·.2.1) := by
        rw [List.map_cons, List.map_map]; rfl
      rw [hmm] at hpp
      exact ⟨_, by rw [hkg], by rw [hkg]; exact hpp, hE.ext hEj⟩
    | false =>
      (refine W_at c21_ok ?_; refine ⟨_, rfl, ?_⟩; simp (disch := first | omega | assumption | rfl | (simp only [vcS] <;> omega) | fail) only [↓ptV_l, ↓vcA, vcB, ↓vcD, vcE, ↓reduceIte, Nat.reduceEqDiff, Nat.reduceAdd, Nat.reduceMul, Nat.reduceLeDiff, Int.reduceLE, Int.reduceLT, Int.reduceEq, Int.reduceToNat, Int.reduceAdd, Int.reduceSub, Int.reduceMul, Int.reduceNeg, reduceCtorEq, Option.bind_some, Option.map_some, List.length_cons, List.length_nil, vcM, List.getElem?_toArray, List.getElem?_cons_zero, List.getElem?_cons_succ, hlt])
      (refine W_at c21_ok ?_; refine ⟨_, rfl, ?_⟩; simp (disch := first | omega | assumption | rfl | (simp only [vcS] <;> omega) | fail) only [↓ptV_l, ↓vcA, vcB, ↓vcD, vcE, ↓reduceIte, Nat.reduceEqDiff, Nat.reduceAdd, Nat.reduceMul, Nat.reduceLeDiff, Int.reduceLE, Int.reduceLT, Int.reduceEq, Int.reduceToNat, Int.reduceAdd, Int.reduceSub, Int.reduceMul, Int.reduceNeg, reduceCtorEq, Option.bind_some, Option.map_some, List.length_cons, List.length_nil, vcM, List.getElem?_toArray, List.getElem?_cons_zero, List.getElem?_cons_succ])
      (refine W_at c21_ok ?_; refine ⟨_, rfl, ?_⟩; simp (disch := first | omega | assumption | rfl | (simp only [vcS] <;> omega) | fail) only [↓ptV_l, ↓vcA, vcB, ↓vcD, vcE, ↓reduceIte, Nat.reduceEqDiff, Nat.reduceAdd, Nat.reduceMul, Nat.reduceLeDiff, Int.reduceLE, Int.reduceLT, Int.reduceEq, Int.reduceToNat, Int.reduceAdd, Int.reduceSub, Int.reduceMul, Int.reduceNeg, reduceCtorEq, Option.bind_some, Option.map_some, List.length_cons, List.length_nil, vcM, List.getElem?_toArray, List.getElem?_cons_zero, List.getElem?_cons_succ])
      (refine W_at c21_ok ?_; refine ⟨_, rfl, ?_⟩; simp (disch := first | omega | assumption | rfl | (simp only [vcS] <;> omega) | fail) only [↓ptV_l, ↓vcA, vcB, ↓vcD, vcE, ↓reduceIte, Nat.reduceEqDiff, Nat.reduceAdd, Nat.reduceMul, Nat.reduceLeDiff, Int.reduceLE, Int.reduceLT, Int.reduceEq, Int.reduceToNat, Int.reduceAdd, Int.reduceSub, Int.reduceMul, Int.reduceNeg, reduceCtorEq, Option.bind_some, Option.map_some, List.length_cons, List.length_nil, vcM, List.getElem?_toArray, List.getElem?_cons_zero, List.getElem?_cons_succ])
      exact rk_data (hx.ext hEj) hb hl (hE.ext hEj) (hno hg) _
  | succ j ih =>
    intro a wj out tl ha hP hEj hob
    have hlt : ((a + 1 : Nat) : Int) ≤ (k : Nat) := by omega
    have hi : a + 1 < ts.length := by omega
    have hOj := hO.keep hEj fun _ _ h => h
    obtain ⟨b, o, c, e, hrd, hc0, hc1⟩ := hOj.at hi
    have hown := hO.own _ (List.getElem_mem hi)
    have hi2 : 0 ≤ ((a + 1 : Nat) : Int) ∧ ((a + 1 : Nat) : Int) < (ts.length : Nat) := by omega
    have hwi : IntKind.i64.wrap (((a + 1 : Nat) : Int) + 1) = ((a + 1 + 1 : Nat) : Int) := wrap_i64 (by omega) (by omega)
    have htk : (ts.drop 1).take (a + 1) = (ts.drop 1).take a ++ [ts[a + 1]] := by
      rw [List.take_add_one, List.getElem?_drop, Nat.add_comm 1 a, List.getElem?_eq_getElem hi]; rfl
    have hall : ((ts.drop 1).take (a + 1)).all (fun t => t.1 == 33) = (((ts.drop 1).take a).all (fun t => t.1 == 33) && (ts[a + 1].1 == 33)) := by
      rw [htk, List.all_append]; simp
    have hdist : ∀ t ∈ (([sm], v0) :: ((ts.drop 1).take a).map fun t => ((t.2.1, t.2.2) : PE)), ∀ g, blk t.2 g → ¬ blk ts[a + 1].2.2 g := by
      intro t ht g hg hg2
      rcases List.mem_cons.1 ht with rfl | ht
      · have := hv0 g hg
        have := hown.1.lt hg2
        omega
      · obtain ⟨t', ht', rfl⟩ := List.mem_map.1 ht
        obtain ⟨i, hi', rfl⟩ := List.mem_iff_getElem.1 ht'
        have hil : i < a := by rw [List.length_take] at hi'; omega
        have e1 : ((ts.drop 1).take a)[i] = ts[1 + i]'(by omega) := by rw [List.getElem_take, List.getElem_drop]
        rw [e1] at hg
        have := hO.dist (1 + i) (a + 1) (by simp; omega) (by simp; omega) g (by simpa using hg) (by simpa using hg2)
        omega
    have hone : ts[a + 1].2.2.oneCell' = true := hown.1.rd.one
    have hcells : ts[a + 1].2.2.cells = #[ts[a + 1].2.2] := by obtain ⟨q, c, e, _⟩ := hown.1.rd.is; rw [e]; rfl
    have hownj := hown.1.ext hEj
    have step : ∀ (tl : Env), W Try.prog (Ret fun u w' => RKindTo w w' s u) 21 13 ((0, x) :: (4, .int .i64 (s.length : Nat)) :: (7, v) :: (9, .int .i64 (k : Nat)) :: (10, out) :: (11, .bool (((ts.drop 1).take (a + 1)).all fun t => t.1 == 33)) :: (12, .int .i64 ((a + 1 : Nat) : Int)) :: tl) wj := by
      intro tl
      have hlen1 : ((ts.drop 1).take a).length ≤ 16 := by rw [List.length_take]; omega
      subst e
      (refine W_at c21_ok ?_; refine ⟨_, rfl, ?_⟩; simp (disch := first | omega | assumption | rfl | (simp only [vcS] <;> omega) | fail) only [↓vcL1, ptS2_eq, ↓vcA, vcB, ↓vcD, vcE, ↓reduceIte, Nat.reduceEqDiff, Nat.reduceAdd, Nat.reduceMul, Nat.reduceLeDiff, Int.reduceLE, Int.reduceLT, Int.reduceEq, Int.reduceToNat, Int.reduceAdd, Int.reduceSub, Int.reduceMul, Int.reduceNeg, reduceCtorEq, Option.bind_some, Option.map_some, List.length_cons, List.length_nil, vcM, List.getElem?_toArray, List.getElem?_cons_zero, List.getElem?_cons_succ, hi2, Int.toNat_natCast, hc1, hcells])
      refine PtsAt.push hP (Nat.zero_le _) (by rw [List.length_cons, List.length_map]; omega) hownj (fun _ _ => Nat.zero_le _) hdist fun v' w' h1 h2 h3 => ?_
      first | (simp (disch := first | omega | assumption | rfl | (simp only [vcS] <;> omega) | fail) only [↓vcL1, ptS2_eq, ↓vcA, vcB, ↓vcD, vcE, ↓reduceIte, Nat.reduceEqDiff, Nat.reduceAdd, Nat.reduceMul, Nat.reduceLeDiff, Int.reduceLE, Int.reduceLT, Int.reduceEq, Int.reduceToNat, Int.reduceAdd, Int.reduceSub, Int.reduceMul, Int.reduceNeg, reduceCtorEq, Option.bind_some, Option.map_some, List.length_cons, List.length_nil, vcM, List.getElem?_toArray, List.getElem?_cons_zero, List.getElem?_cons_succ]) | (simp (disch := first | omega | assumption | rfl | (simp only [vcS] <;> omega) | fail) only [↓vcL2, ptS1_eq, ↓vcA, vcB, ↓vcD, vcE, ↓reduceIte, Nat.reduceEqDiff, Nat.reduceAdd, Nat.reduceMul, Nat.reduceLeDiff, Int.reduceLE, Int.reduceLT, Int.reduceEq, Int.reduceToNat, Int.reduceAdd, Int.reduceSub, Int.reduceMul, Int.reduceNeg, reduceCtorEq, Option.bind_some, Option.map_some, List.length_cons, List.length_nil, vcM, List.getElem?_toArray, List.getElem?_cons_zero, List.getElem?_cons_succ]) | skip
      (refine W_at c21_ok ?_; refine ⟨_, rfl, ?_⟩; simp (disch := first | omega | assumption | rfl | (simp only [vcS] <;> omega) | fail) only [↓ptV_l, ↓vcA, vcB, ↓vcD, vcE, ↓reduceIte, Nat.reduceEqDiff, Nat.reduceAdd, Nat.reduceMul, Nat.reduceLeDiff, Int.reduceLE, Int.reduceLT, Int.reduceEq, Int.reduceToNat, Int.reduceAdd, Int.reduceSub, Int.reduceMul, Int.reduceNeg, reduceCtorEq, Option.bind_some, Option.map_some, List.length_cons, List.length_nil, vcM, List.getElem?_toArray, List.getElem?_cons_zero, List.getElem?_cons_succ, hwi])
      (refine W_at c21_ok ?_; refine ⟨_, rfl, ?_⟩; simp (disch := first | omega | assumption | rfl | (simp only [vcS] <;> omega) | fail) only [↓ptV_l, ↓vcA, vcB, ↓vcD, vcE, ↓reduceIte, Nat.reduceEqDiff, Nat.reduceAdd, Nat.reduceMul, Nat.reduceLeDiff, Int.reduceLE, Int.reduceLT, Int.reduceEq, Int.reduceToNat, Int.reduceAdd, Int.reduceSub, Int.reduceMul, Int.reduceNeg, reduceCtorEq, Option.bind_some, Option.map_some, List.length_cons, List.length_nil, vcM, List.getElem?_toArray, List.getElem?_cons_zero, List.getElem?_cons_succ])
      have hmap : (([sm], v0) :: ((ts.drop 1).take a).map fun t => ((t.2.1, t.2.2) : PE)) ++ [(ts[a + 1].2.1, ts[a + 1].2.2)] = (([sm], v0) :: ((ts.drop 1).take (a + 1)).map fun t => ((t.2.1, t.2.2) : PE)) := by
        rw [htk, List.map_append, List.cons_append]; rfl
      rw [hmap] at h1
      refine ih (a + 1) w' v' _ (by omega) h1 (hEj.trans h2 fun g hg hs => ?_) fun g hg => ?_
      · have := hob g hs
        omega
      · rcases h3 g hg with h | h
        · exact hob g h
        · have := hEj.size; omega
    cases hg : ((ts.drop 1).take a).all (fun t => t.1 == 33) with
    | true =>
      rw [hg, Bool.true_and] at hall
      rw [hall] at step
      subst e
      have hdc : decide (ts[a + 1].1 = 33) = (ts[a + 1].1 == 33) := rfl
      (refine W_at c21_ok ?_; refine ⟨_, rfl, ?_⟩; simp (disch := first | omega | assumption | rfl | (simp only [vcS] <;> omega) | fail) only [↓ptV_l, ↓vcA, vcB, ↓vcD, vcE, ↓reduceIte, Nat.reduceEqDiff, Nat.reduceAdd, Nat.reduceMul, Nat.reduceLeDiff, Int.reduceLE, Int.reduceLT, Int.reduceEq, Int.reduceToNat, Int.reduceAdd, Int.reduceSub, Int.reduceMul, Int.reduceNeg, reduceCtorEq, Option.bind_some, Option.map_some, List.length_cons, List.length_nil, vcM, List.getElem?_toArray, List.getElem?_cons_zero, List.getElem?_cons_succ, hlt])
      (refine W_at c21_ok ?_; refine ⟨_, rfl, ?_⟩; simp (disch := first | omega | assumption | rfl | (simp only [vcS] <;> omega) | fail) only [↓ptV_l, ↓vcA, vcB, ↓vcD, vcE, ↓reduceIte, Nat.reduceEqDiff, Nat.reduceAdd, Nat.reduceMul, Nat.reduceLeDiff, Int.reduceLE, Int.reduceLT, Int.reduceEq, Int.reduceToNat, Int.reduceAdd, Int.reduceSub, Int.reduceMul, Int.reduceNeg, reduceCtorEq, Option.bind_some, Option.map_some, List.length_cons, List.length_nil, vcM, List.getElem?_toArray, List.getElem?_cons_zero, List.getElem?_cons_succ])
      (refine W_at c21_ok ?_; refine ⟨_, rfl, ?_⟩; simp (disch := first | omega | assumption | rfl | (simp only [vcS] <;> omega) | fail) only [↓ptV_l, ↓vcA, vcB, ↓vcD, vcE, ↓reduceIte, Nat.reduceEqDiff, Nat.reduceAdd, Nat.reduceMul, Nat.reduceLeDiff, Int.reduceLE, Int.reduceLT, Int.reduceEq, Int.reduceToNat, Int.reduceAdd, Int.reduceSub, Int.reduceMul, Int.reduceNeg, reduceCtorEq, Option.bind_some, Option.map_some, List.length_cons, List.length_nil, vcM, List.getElem?_toArray, List.getElem?_cons_zero, List.getElem?_cons_succ, hi2, Int.toNat_natCast, hc0, hdc])
      exact step _
    | false =>
      rw [hg, Bool.false_and] at hall
      rw [hall] at step
      (refine W_at c21_ok ?_; refine ⟨_, rfl, ?_⟩; simp (disch := first | omega | assumption | rfl | (simp only [vcS] <;> omega) | fail) only [↓ptV_l, ↓vcA, vcB, ↓vcD, vcE, ↓reduceIte, Nat.reduceEqDiff, Nat.reduceAdd, Nat.reduceMul, Nat.reduceLeDiff, Int.reduceLE, Int.reduceLT, Int.reduceEq, Int.reduceToNat, Int.reduceAdd, Int.reduceSub, Int.reduceMul, Int.reduceNeg, reduceCtorEq, Option.bind_some, Option.map_some, List.length_cons, List.length_nil, vcM, List.getElem?_toArray, List.getElem?_cons_zero, List.getElem?_cons_succ, hlt])
      (refine W_at c21_ok ?_; refine ⟨_, rfl, ?_⟩; simp (disch := first | omega | assumption | rfl | (simp only [vcS] <;> omega) | fail) only [↓ptV_l, ↓vcA, vcB, ↓vcD, vcE, ↓reduceIte, Nat.reduceEqDiff, Nat.reduceAdd, Nat.reduceMul, Nat.reduceLeDiff, Int.reduceLE, Int.reduceLT, Int.reduceEq, Int.reduceToNat, Int.reduceAdd, Int.reduceSub, Int.reduceMul, Int.reduceNeg, reduceCtorEq, Option.bind_some, Option.map_some, List.length_cons, List.length_nil, vcM, List.getElem?_toArray, List.getElem?_cons_zero, List.getElem?_cons_succ])
      (refine W_at c21_ok ?_; refine ⟨_, rfl, ?_⟩; simp (disch := first | omega | assumption | rfl | (simp only [vcS] <;> omega) | fail) only [↓ptV_l, ↓vcA, vcB, ↓vcD, vcE, ↓reduceIte, Nat.reduceEqDiff, Nat.reduceAdd, Nat.reduceMul, Nat.reduceLeDiff, Int.reduceLE, Int.reduceLT, Int.reduceEq, Int.reduceToNat, Int.reduceAdd, Int.reduceSub, Int.reduceMul, Int.reduceNeg, reduceCtorEq, Option.bind_some, Option.map_some, List.length_cons, List.length_nil, vcM, List.getElem?_toArray, List.getElem?_cons_zero, List.getElem?_cons_succ])
      exact step _
end Go.Proofs
namespace Go.Proofs
open Go.Vc
set_option maxRecDepth 10000

theorem multi_last {s : List Int} (h : s.getLast? ≠ some 174) : multiF s = none := by
  unfold multiF; rw [if_pos (.inr h)]
set_option maxHeartbeats 12800000 in
theorem rk_ops {w w1 : World} {x : Value} {s : List Int} (hx : Rd w1 x s) (hb : byt s) (hl : s.length ≤ 1000000) (hE : Ext w w1)
    (hk : kindG s = match rmF s with | some ps => (5, ps) | none => if preB s [106] && pushesF (s.drop 1) then (6, [s.drop 1]) else (0, [])) (tl : Env) :
    W Try.prog (Ret fun u w' => RKindTo w w' s u) 21 23 ((0, x) :: (4, .int .i64 (s.length : Nat)) :: tl) w1 := by
  (refine W_at c21_ok ?_; refine ⟨_, rfl, ?_⟩; simp (disch := first | omega | assumption | rfl | (simp only [vcS] <;> omega) | fail) only [↓vcL1, ptS2_eq, ↓vcA, vcB, ↓vcD, vcE, ↓reduceIte, Nat.reduceEqDiff, Nat.reduceAdd, Nat.reduceMul, Nat.reduceLeDiff, Int.reduceLE, Int.reduceLT, Int.reduceEq, Int.reduceToNat, Int.reduceAdd, Int.reduceSub, Int.reduceMul, Int.reduceNeg, reduceCtorEq, Option.bind_some, Option.map_some, List.length_cons, List.length_nil, vcM, List.getElem?_toArray, List.getElem?_cons_zero, List.getElem?_cons_succ])
  refine callV_ret (rparse_ok w1 x s hx hb hl) ?_
  rintro u w2 ⟨hE2, hpt⟩
  have hE02 := hE.ext hE2
  have hx2 := hx.ext hE2
  have bad : rmF s = none → ∀ (tl : Env), W Try.prog (Ret fun u w' => RKindTo w w' s u) 21 6 ((0, x) :: (4, .int .i64 (s.length : Nat)) :: tl) w2 := fun hn tl => by
    rw [hn] at hk
    exact rk_data hx2 hb hl hE02 hk tl
  rcases hpt with ⟨hp, rfl⟩ | ⟨v, ts, hp, rfl, hO⟩
  · have h0 : lenR (.slice none 0 0) = some (.int .i64 0) := rfl
    have hn : rmF s = none := by rw [rmF, hp]
    simp (disch := first | omega | assumption | rfl | (simp only [vcS] <;> omega) | fail) only [↓vcL2, ptS1_eq, ↓vcA, vcB, ↓vcD, vcE, ↓reduceIte, Nat.reduceEqDiff, Nat.reduceAdd, Nat.reduceMul, Nat.reduceLeDiff, Int.reduceLE, Int.reduceLT, Int.reduceEq, Int.reduceToNat, Int.reduceAdd, Int.reduceSub, Int.reduceMul, Int.reduceNeg, reduceCtorEq, Option.bind_some, Option.map_some, List.length_cons, List.length_nil, vcM, List.getElem?_toArray, List.getElem?_cons_zero, List.getElem?_cons_succ]
    (refine W_at c21_ok ?_; refine ⟨_, rfl, ?_⟩; simp (disch := first | omega | assumption | rfl | (simp only [vcS] <;> omega) | fail) only [↓ptV_l, ↓vcA, vcB, ↓vcD, vcE, ↓reduceIte, Nat.reduceEqDiff, Nat.reduceAdd, Nat.reduceMul, Nat.reduceLeDiff, Int.reduceLE, Int.reduceLT, Int.reduceEq, Int.reduceToNat, Int.reduceAdd, Int.reduceSub, Int.reduceMul, Int.reduceNeg, reduceCtorEq, Option.bind_some, Option.map_some, List.length_cons, List.length_nil, vcM, List.getElem?_toArray, List.getElem?_cons_zero, List.getElem?_cons_succ, h0])
    (refine W_at c21_ok ?_; refine ⟨_, rfl, ?_⟩; simp (disch := first | omega | assumption | rfl | (simp only [vcS] <;> omega) | fail) only [↓ptV_l, ↓vcA, vcB, ↓vcD, vcE, ↓reduceIte, Nat.reduceEqDiff, Nat.reduceAdd, Nat.reduceMul, Nat.reduceLeDiff, Int.reduceLE, Int.reduceLT, Int.reduceEq, Int.reduceToNat, Int.reduceAdd, Int.reduceSub, Int.reduceMul, Int.reduceNeg, reduceCtorEq, Option.bind_some, Option.map_some, List.length_cons, List.length_nil, vcM, List.getElem?_toArray, List.getElem?_cons_zero, List.getElem?_cons_succ])
    (refine W_at c21_ok ?_; refine ⟨_, rfl, ?_⟩; simp (disch := first | omega | assumption | rfl | (simp only [vcS] <;> omega) | fail) only [↓ptV_l, ↓vcA, vcB, ↓vcD, vcE, ↓reduceIte, Nat.reduceEqDiff, Nat.reduceAdd, Nat.reduceMul, Nat.reduceLeDiff, Int.reduceLE, Int.reduceLT, Int.reduceEq, Int.reduceToNat, Int.reduceAdd, Int.reduceSub, Int.reduceMul, Int.reduceNeg, reduceCtorEq, Option.bind_some, Option.map_some, List.length_cons, List.length_nil, vcM, List.getElem?_toArray, List.getElem?_cons_zero, List.getElem?_cons_succ])
    exact bad hn _
  have hcodes := code_byt _ _ hb hp
  have hlen := hO.len
  have hbd := opsOf_bound hb hp
  rw [opsOf_len] at hbd
  have hrm := rmF_ts hp
  have none_of : ¬ (4 ≤ ts.length ∧ ts.length ≤ 19 ∧ 1 ≤ smallF (cd ts 0) ∧ smallF (cd ts 0) ≤ ((ts.length - 3 : Nat) : Int) ∧ smallF (cd ts (ts.length - 2)) = ((ts.length - 3 : Nat) : Int) ∧ cd ts (ts.length - 1) = 174 ∧ ((ts.drop 1).take (ts.length - 3)).all (fun t => t.1 == 33) = true) → rmF s = none := fun h => by rw [hrm, if_neg h]
  simp (disch := first | omega | assumption | rfl | (simp only [vcS] <;> omega) | fail) only [↓vcL2, ptS1_eq, ↓vcA, vcB, ↓vcD, vcE, ↓reduceIte, Nat.reduceEqDiff, Nat.reduceAdd, Nat.reduceMul, Nat.reduceLeDiff, Int.reduceLE, Int.reduceLT, Int.reduceEq, Int.reduceToNat, Int.reduceAdd, Int.reduceSub, Int.reduceMul, Int.reduceNeg, reduceCtorEq, Option.bind_some, Option.map_some, List.length_cons, List.length_nil, vcM, List.getElem?_toArray, List.getElem?_cons_zero, List.getElem?_cons_succ]
  by_cases a1 : 4 ≤ ts.length
  · obtain ⟨k, hkl⟩ : ∃ k, ts.length = k + 3 := ⟨ts.length - 3, by omega⟩
    have e3 : ts.length - 3 = k := by omega
    have e2 : ts.length - 2 = k + 1 := by omega
    have e1 : ts.length - 1 = k + 2 := by omega
    rw [e1, e2, e3] at hrm none_of
    have hws : IntKind.i64.wrap ((ts.length : Int) - 3) = (k : Nat) := by rw [wrap_i64 (by omega) (by omega)]; omega
    (refine W_at c21_ok ?_; refine ⟨_, rfl, ?_⟩; simp (disch := first | omega | assumption | rfl | (simp only [vcS] <;> omega) | fail) only [↓ptV_l, ↓vcA, vcB, ↓vcD, vcE, ↓reduceIte, Nat.reduceEqDiff, Nat.reduceAdd, Nat.reduceMul, Nat.reduceLeDiff, Int.reduceLE, Int.reduceLT, Int.reduceEq, Int.reduceToNat, Int.reduceAdd, Int.reduceSub, Int.reduceMul, Int.reduceNeg, reduceCtorEq, Option.bind_some, Option.map_some, List.length_cons, List.length_nil, vcM, List.getElem?_toArray, List.getElem?_cons_zero, List.getElem?_cons_succ, hlen, hws])
    have b1 : 1 ≤ ((k : Nat) : Int) := by omega
    by_cases a2 : ((k : Nat) : Int) ≤ 16
    · obtain ⟨b, o, c, rfl, hr0, hc0, hd0⟩ := hO.at (i := 0) (by omega)
      obtain ⟨b', o', c', e, hr1, hc1, hd1⟩ := hO.at (i := k + 1) (by omega)
      injection e with e4 _ e5
      cases e4; subst e5
      obtain ⟨b', o', c', e, hr2, hc2, hd2⟩ := hO.at (i := k + 2) (by omega)
      injection e with e4 _ e5
      cases e4; subst e5
      have g0 := cd_at (ts := ts) (i := 0) (by omega)
      have g1 := cd_at (ts := ts) (i := k + 1) (by omega)
      have g2 := cd_at (ts := ts) (i := k + 2) (by omega)
      have y0 := hcodes (ts[0].1, ts[0].2.1) (by simp only [opsOf]; exact List.mem_map.2 ⟨_, List.getElem_mem (show 0 < ts.length by omega), rfl⟩)
      have y1 := hcodes (ts[k + 1].1, ts[k + 1].2.1) (by simp only [opsOf]; exact List.mem_map.2 ⟨_, List.getElem_mem (show k + 1 < ts.length by omega), rfl⟩)
      simp only at y0 y1
      rw [← g0] at y0 hc0
      rw [← g1] at y1 hc1
      rw [← g2] at hc2
      generalize cd ts 0 = c0 at hc0 y0 none_of hrm
      generalize cd ts (k + 1) = c1 at hc1 y1 none_of hrm
      generalize cd ts (k + 2) = c2 at hc2 none_of hrm
      have i0 : 0 < ((ts.length : Nat) : Int) := by omega
      have i1 : 0 ≤ ((k + 1 : Nat) : Int) ∧ ((k + 1 : Nat) : Int) < (ts.length : Nat) := by omega
      have i2 : 0 ≤ ((k + 2 : Nat) : Int) ∧ ((k + 2 : Nat) : Int) < (ts.length : Nat) := by omega
      have w1' : IntKind.i64.wrap (((k : Nat) : Int) + 1) = ((k + 1 : Nat) : Int) := wrap_i64 (by omega) (by omega)
      have w2' : IntKind.i64.wrap (((k : Nat) : Int) + 2) = ((k + 2 : Nat) : Int) := wrap_i64 (by omega) (by omega)
      have hT0 : (0 : Int).toNat = 0 := rfl
      rw [Nat.zero_mul, Nat.add_zero] at hc0
      (refine W_at c21_ok ?_; refine ⟨_, rfl, ?_⟩; simp (disch := first | omega | assumption | rfl | (simp only [vcS] <;> omega) | fail) only [↓vcL1, ptS2_eq, ↓vcA, vcB, ↓vcD, vcE, ↓reduceIte, Nat.reduceEqDiff, Nat.reduceAdd, Nat.reduceMul, Nat.reduceLeDiff, Int.reduceLE, Int.reduceLT, Int.reduceEq, Int.reduceToNat, Int.reduceAdd, Int.reduceSub, Int.reduceMul, Int.reduceNeg, reduceCtorEq, Option.bind_some, Option.map_some, List.length_cons, List.length_nil, vcM, List.getElem?_toArray, List.getElem?_cons_zero, List.getElem?_cons_succ, b1, a2, i0, hc0, hT0, Nat.zero_mul, Nat.add_zero])
      refine callV_ret (rsmall_ok w2 c0 y0) ?_
      rintro _ wq ⟨rfl, hw⟩
      obtain rfl : w2 = wq := hw.symm
      by_cases a3 : 1 ≤ smallF c0
      · simp (disch := first | omega | assumption | rfl | (simp only [vcS] <;> omega) | fail) only [↓vcL2, ptS1_eq, ↓vcA, vcB, ↓vcD, vcE, ↓reduceIte, Nat.reduceEqDiff, Nat.reduceAdd, Nat.reduceMul, Nat.reduceLeDiff, Int.reduceLE, Int.reduceLT, Int.reduceEq, Int.reduceToNat, Int.reduceAdd, Int.reduceSub, Int.reduceMul, Int.reduceNeg, reduceCtorEq, Option.bind_some, Option.map_some, List.length_cons, List.length_nil, vcM, List.getElem?_toArray, List.getElem?_cons_zero, List.getElem?_cons_succ, a3, i0, hc0, hT0, Nat.zero_mul, Nat.add_zero]
        refine callV_ret (rsmall_ok w2 c0 y0) ?_
        rintro _ wq ⟨rfl, hw⟩
        obtain rfl : w2 = wq := hw.symm
        by_cases a4 : smallF c0 ≤ (k : Nat)
        · simp (disch := first | omega | assumption | rfl | (simp only [vcS] <;> omega) | fail) only [↓vcL1, ptS2_eq, ↓vcA, vcB, ↓vcD, vcE, ↓reduceIte, Nat.reduceEqDiff, Nat.reduceAdd, Nat.reduceMul, Nat.reduceLeDiff, Int.reduceLE, Int.reduceLT, Int.reduceEq, Int.reduceToNat, Int.reduceAdd, Int.reduceSub, Int.reduceMul, Int.reduceNeg, reduceCtorEq, Option.bind_some, Option.map_some, List.length_cons, List.length_nil, vcM, List.getElem?_toArray, List.getElem?_cons_zero, List.getElem?_cons_succ, a4, w1', i1, hc1, Int.toNat_natCast]
          refine callV_ret (rsmall_ok w2 c1 y1) ?_
          rintro _ wq ⟨rfl, hw⟩
          obtain rfl : w2 = wq := hw.symm
          by_cases a5 : smallF c1 = (k : Nat)
          · by_cases a6 : c2 = 174
            · rw [a6] at hc2
              simp (disch := first | omega | assumption | rfl | (simp only [vcS] <;> omega) | fail) only [↓vcL2, ptS1_eq, ↓vcA, vcB, ↓vcD, vcE, ↓reduceIte, Nat.reduceEqDiff, Nat.reduceAdd, Nat.reduceMul, Nat.reduceLeDiff, Int.reduceLE, Int.reduceLT, Int.reduceEq, Int.reduceToNat, Int.reduceAdd, Int.reduceSub, Int.reduceMul, Int.reduceNeg, reduceCtorEq, Option.bind_some, Option.map_some, List.length_cons, List.length_nil, vcM, List.getElem?_toArray, List.getElem?_cons_zero, List.getElem?_cons_succ, a5, w2', i2, hc2, Int.toNat_natCast]
              (refine W_at c21_ok ?_; refine ⟨_, rfl, ?_⟩; simp (disch := first | omega | assumption | rfl | (simp only [vcS] <;> omega) | fail) only [↓ptV_l, ↓vcA, vcB, ↓vcD, vcE, ↓reduceIte, Nat.reduceEqDiff, Nat.reduceAdd, Nat.reduceMul, Nat.reduceLeDiff, Int.reduceLE, Int.reduceLT, Int.reduceEq, Int.reduceToNat, Int.reduceAdd, Int.reduceSub, Int.reduceMul, Int.reduceNeg, reduceCtorEq, Option.bind_some, Option.map_some, List.length_cons, List.length_nil, vcM, List.getElem?_toArray, List.getElem?_cons_zero, List.getElem?_cons_succ])
              -- they may be keys
              have hsr := smallF_r c0
              have hu8 : IntKind.u8.wrap (smallF c0) = smallF c0 := by rw [wrap_u8]; omega
              have hyes : ((ts.drop 1).take k).all (fun t => t.1 == 33) = true → kindG s = (5, [smallF c0] :: ((ts.drop 1).take k).map (·.2.1)) := fun h => by
                rw [hk, hrm, if_pos ⟨a1, by omega, a3, a4, a5, a6, h⟩]
              have hno : ((ts.drop 1).take k).all (fun t => t.1 == 33) = false → kindG s = if preB s [106] && pushesF (s.drop 1) then (6, [s.drop 1]) else (0, []) := fun h => by
                rw [hk, none_of fun hh => by rw [hh.2.2.2.2.2.2] at h; cases h]
              (refine W_at c21_ok ?_; refine ⟨_, rfl, ?_⟩; simp (disch := first | omega | assumption | rfl | (simp only [vcS] <;> omega) | fail) only [↓vcL1, ptS2_eq, ↓vcA, vcB, ↓vcD, vcE, ↓reduceIte, Nat.reduceEqDiff, Nat.reduceAdd, Nat.reduceMul, Nat.reduceLeDiff, Int.reduceLE, Int.reduceLT, Int.reduceEq, Int.reduceToNat, Int.reduceAdd, Int.reduceSub, Int.reduceMul, Int.reduceNeg, reduceCtorEq, Option.bind_some, Option.map_some, List.length_cons, List.length_nil, vcM, List.getElem?_toArray, List.getElem?_cons_zero, List.getElem?_cons_succ, i0, hc0, hT0, Nat.zero_mul, Nat.add_zero])
              refine callV_ret (rsmall_ok w2 c0 y0) ?_
              rintro _ wq ⟨rfl, hw⟩
              obtain rfl : w2 = wq := hw.symm
              generalize smallF c0 = sm at hu8 hyes
              have hcs : Value.cells (.slice (some ⟨w2.heap.size, 0, none⟩) 1 1) = #[.slice (some ⟨w2.heap.size, 0, none⟩) 1 1] := rfl
              simp (disch := first | omega | assumption | rfl | (simp only [vcS] <;> omega) | fail) only [↓vcL2, ptS1_eq, ↓vcA, vcB, ↓vcD, vcE, ↓reduceIte, Nat.reduceEqDiff, Nat.reduceAdd, Nat.reduceMul, Nat.reduceLeDiff, Int.reduceLE, Int.reduceLT, Int.reduceEq, Int.reduceToNat, Int.reduceAdd, Int.reduceSub, Int.reduceMul, Int.reduceNeg, reduceCtorEq, Option.bind_some, Option.map_some, List.length_cons, List.length_nil, vcM, List.getElem?_toArray, List.getElem?_cons_zero, List.getElem?_cons_succ, hu8, hcs]
              (refine W_at c21_ok ?_; refine ⟨_, rfl, ?_⟩; simp (disch := first | omega | assumption | rfl | (simp only [vcS] <;> omega) | fail) only [↓ptV_l, ↓vcA, vcB, ↓vcD, vcE, ↓reduceIte, Nat.reduceEqDiff, Nat.reduceAdd, Nat.reduceMul, Nat.reduceLeDiff, Int.reduceLE, Int.reduceLT, Int.reduceEq, Int.reduceToNat, Int.reduceAdd, Int.reduceSub, Int.reduceMul, Int.reduceNeg, reduceCtorEq, Option.bind_some, Option.map_some, List.length_cons, List.length_nil, vcM, List.getElem?_toArray, List.getElem?_cons_zero, List.getElem?_cons_succ])
              (refine W_at c21_ok ?_; refine ⟨_, rfl, ?_⟩; simp (disch := first | omega | assumption | rfl | (simp only [vcS] <;> omega) | fail) only [↓ptV_l, ↓vcA, vcB, ↓vcD, vcE, ↓reduceIte, Nat.reduceEqDiff, Nat.reduceAdd, Nat.reduceMul, Nat.reduceLeDiff, Int.reduceLE, Int.reduceLT, Int.reduceEq, Int.reduceToNat, Int.reduceAdd, Int.reduceSub, Int.reduceMul, Int.reduceNeg, reduceCtorEq, Option.bind_some, Option.map_some, List.length_cons, List.length_nil, vcM, List.getElem?_toArray, List.getElem?_cons_zero, List.getElem?_cons_succ])
              simp only [List.append_nil]
              have hOm : Own1 (w2.alloc (.cells (bv [sm]).toArray 5)) (.slice (some ⟨w2.heap.size, 0, none⟩) 1 1) [sm] := own_lit1 (w := w2) (bs := [sm]) (by simp; decide)
              have hP0 := PtsAt.lit (m := 0) hOm (fun g _ => Nat.zero_le _) (Nat.zero_le _)
              rw [size_alloc] at hP0
              have hbv : bv [sm] = [.int .u8 sm] := rfl
              rw [hbv] at hP0
              have hE3 : Ext w2 ((w2.alloc (.cells [.int .u8 sm].toArray 5)).alloc (.cells [.slice (some ⟨w2.heap.size, 0, none⟩) 1 1].toArray 22)) := ((Keep.refl _ w2).alloc _).alloc _
              generalize World.alloc (World.alloc w2 _) _ = w3 at hP0 hE3 ⊢
              exact rk_keys hx2 hb hl hE02 _ _ ts hO k (by omega) (by omega) hkl sm x hyes hno (.slice (some ⟨w2.heap.size, 0, none⟩) 1 1) (fun g hg => by have e : w2.heap.size = g := Option.some.inj hg; omega) k 0 w3 _ _ (by omega) hP0 hE3 (fun g hg => by have e : w2.heap.size + 1 = g := Option.some.inj hg; omega)
            · simp (disch := first | omega | assumption | rfl | (simp only [vcS] <;> omega) | fail) only [↓vcL2, ptS1_eq, ↓vcA, vcB, ↓vcD, vcE, ↓reduceIte, Nat.reduceEqDiff, Nat.reduceAdd, Nat.reduceMul, Nat.reduceLeDiff, Int.reduceLE, Int.reduceLT, Int.reduceEq, Int.reduceToNat, Int.reduceAdd, Int.reduceSub, Int.reduceMul, Int.reduceNeg, reduceCtorEq, Option.bind_some, Option.map_some, List.length_cons, List.length_nil, vcM, List.getElem?_toArray, List.getElem?_cons_zero, List.getElem?_cons_succ, a5, w2', i2, hc2, a6, Int.toNat_natCast]
              (refine W_at c21_ok ?_; refine ⟨_, rfl, ?_⟩; simp (disch := first | omega | assumption | rfl | (simp only [vcS] <;> omega) | fail) only [↓ptV_l, ↓vcA, vcB, ↓vcD, vcE, ↓reduceIte, Nat.reduceEqDiff, Nat.reduceAdd, Nat.reduceMul, Nat.reduceLeDiff, Int.reduceLE, Int.reduceLT, Int.reduceEq, Int.reduceToNat, Int.reduceAdd, Int.reduceSub, Int.reduceMul, Int.reduceNeg, reduceCtorEq, Option.bind_some, Option.map_some, List.length_cons, List.length_nil, vcM, List.getElem?_toArray, List.getElem?_cons_zero, List.getElem?_cons_succ])
              exact bad (none_of fun h => a6 h.2.2.2.2.2.1) _
          · simp (disch := first | omega | assumption | rfl | (simp only [vcS] <;> omega) | fail) only [↓vcL2, ptS1_eq, ↓vcA, vcB, ↓vcD, vcE, ↓reduceIte, Nat.reduceEqDiff, Nat.reduceAdd, Nat.reduceMul, Nat.reduceLeDiff, Int.reduceLE, Int.reduceLT, Int.reduceEq, Int.reduceToNat, Int.reduceAdd, Int.reduceSub, Int.reduceMul, Int.reduceNeg, reduceCtorEq, Option.bind_some, Option.map_some, List.length_cons, List.length_nil, vcM, List.getElem?_toArray, List.getElem?_cons_zero, List.getElem?_cons_succ, a5]
            (refine W_at c21_ok ?_; refine ⟨_, rfl, ?_⟩; simp (disch := first | omega | assumption | rfl | (simp only [vcS] <;> omega) | fail) only [↓ptV_l, ↓vcA, vcB, ↓vcD, vcE, ↓reduceIte, Nat.reduceEqDiff, Nat.reduceAdd, Nat.reduceMul, Nat.reduceLeDiff, Int.reduceLE, Int.reduceLT, Int.reduceEq, Int.reduceToNat, Int.reduceAdd, Int.reduceSub, Int.reduceMul, Int.reduceNeg, reduceCtorEq, Option.bind_some, Option.map_some, List.length_cons, List.length_nil, vcM, List.getElem?_toArray, List.getElem?_cons_zero, List.getElem?_cons_succ])
            exact bad (none_of fun h => a5 h.2.2.2.2.1) _
        · simp (disch := first | omega | assumption | rfl | (simp only [vcS] <;> omega) | fail) only [↓vcL1, ptS2_eq, ↓vcA, vcB, ↓vcD, vcE, ↓reduceIte, Nat.reduceEqDiff, Nat.reduceAdd, Nat.reduceMul, Nat.reduceLeDiff, Int.reduceLE, Int.reduceLT, Int.reduceEq, Int.reduceToNat, Int.reduceAdd, Int.reduceSub, Int.reduceMul, Int.reduceNeg, reduceCtorEq, Option.bind_some, Option.map_some, List.length_cons, List.length_nil, vcM, List.getElem?_toArray, List.getElem?_cons_zero, List.getElem?_cons_succ, a4]
          (refine W_at c21_ok ?_; refine ⟨_, rfl, ?_⟩; simp (disch := first | omega | assumption | rfl | (simp only [vcS] <;> omega) | fail) only [↓ptV_l, ↓vcA, vcB, ↓vcD, vcE, ↓reduceIte, Nat.reduceEqDiff, Nat.reduceAdd, Nat.reduceMul, Nat.reduceLeDiff, Int.reduceLE, Int.reduceLT, Int.reduceEq, Int.reduceToNat, Int.reduceAdd, Int.reduceSub, Int.reduceMul, Int.reduceNeg, reduceCtorEq, Option.bind_some, Option.map_some, List.length_cons, List.length_nil, vcM, List.getElem?_toArray, List.getElem?_cons_zero, List.getElem?_cons_succ])
          exact bad (none_of fun h => a4 h.2.2.2.1) _
      · simp (disch := first | omega | assumption | rfl | (simp only [vcS] <;> omega) | fail) only [↓vcL2, ptS1_eq, ↓vcA, vcB, ↓vcD, vcE, ↓reduceIte, Nat.reduceEqDiff, Nat.reduceAdd, Nat.reduceMul, Nat.reduceLeDiff, Int.reduceLE, Int.reduceLT, Int.reduceEq, Int.reduceToNat, Int.reduceAdd, Int.reduceSub, Int.reduceMul, Int.reduceNeg, reduceCtorEq, Option.bind_some, Option.map_some, List.length_cons, List.length_nil, vcM, List.getElem?_toArray, List.getElem?_cons_zero, List.getElem?_cons_succ, a3]
        (refine W_at c21_ok ?_; refine ⟨_, rfl, ?_⟩; simp (disch := first | omega | assumption | rfl | (simp only [vcS] <;> omega) | fail) only [↓ptV_l, ↓vcA, vcB, ↓vcD, vcE, ↓reduceIte, Nat.reduceEqDiff, Nat.reduceAdd, Nat.reduceMul, Nat.reduceLeDiff, Int.reduceLE, Int.reduceLT, Int.reduceEq, Int.reduceToNat, Int.reduceAdd, Int.reduceSub, Int.reduceMul, Int.reduceNeg, reduceCtorEq, Option.bind_some, Option.map_some, List.length_cons, List.length_nil, vcM, List.getElem?_toArray, List.getElem?_cons_zero, List.getElem?_cons_succ])
        exact bad (none_of fun h => a3 h.2.2.1) _
    · (refine W_at c21_ok ?_; refine ⟨_, rfl, ?_⟩; simp (disch := first | omega | assumption | rfl | (simp only [vcS] <;> omega) | fail) only [↓ptV_l, ↓vcA, vcB, ↓vcD, vcE, ↓reduceIte, Nat.reduceEqDiff, Nat.reduceAdd, Nat.reduceMul, Nat.reduceLeDiff, Int.reduceLE, Int.reduceLT, Int.reduceEq, Int.reduceToNat, Int.reduceAdd, Int.reduceSub, Int.reduceMul, Int.reduceNeg, reduceCtorEq, Option.bind_some, Option.map_some, List.length_cons, List.length_nil, vcM, List.getElem?_toArray, List.getElem?_cons_zero, List.getElem?_cons_succ, b1, a2])
      (refine W_at c21_ok ?_; refine ⟨_, rfl, ?_⟩; simp (disch := first | omega | assumption | rfl | (simp only [vcS] <;> omega) | fail) only [↓ptV_l, ↓vcA, vcB, ↓vcD, vcE, ↓reduceIte, Nat.reduceEqDiff, Nat.reduceAdd, Nat.reduceMul, Nat.reduceLeDiff, Int.reduceLE, Int.reduceLT, Int.reduceEq, Int.reduceToNat, Int.reduceAdd, Int.reduceSub, Int.reduceMul, Int.reduceNeg, reduceCtorEq, Option.bind_some, Option.map_some, List.length_cons, List.length_nil, vcM, List.getElem?_toArray, List.getElem?_cons_zero, List.getElem?_cons_succ])
      exact bad (none_of fun h => by omega) _
  · have hws : IntKind.i64.wrap ((ts.length : Int) - 3) = (ts.length : Int) - 3 := wrap_i64 (by omega) (by omega)
    have b1 : ¬ (1 ≤ (ts.length : Int) - 3) := by omega
    (refine W_at c21_ok ?_; refine ⟨_, rfl, ?_⟩; simp (disch := first | omega | assumption | rfl | (simp only [vcS] <;> omega) | fail) only [↓ptV_l, ↓vcA, vcB, ↓vcD, vcE, ↓reduceIte, Nat.reduceEqDiff, Nat.reduceAdd, Nat.reduceMul, Nat.reduceLeDiff, Int.reduceLE, Int.reduceLT, Int.reduceEq, Int.reduceToNat, Int.reduceAdd, Int.reduceSub, Int.reduceMul, Int.reduceNeg, reduceCtorEq, Option.bind_some, Option.map_some, List.length_cons, List.length_nil, vcM, List.getElem?_toArray, List.getElem?_cons_zero, List.getElem?_cons_succ, hlen, hws])
    (refine W_at c21_ok ?_; refine ⟨_, rfl, ?_⟩; simp (disch := first | omega | assumption | rfl | (simp only [vcS] <;> omega) | fail) only [↓ptV_l, ↓vcA, vcB, ↓vcD, vcE, ↓reduceIte, Nat.reduceEqDiff, Nat.reduceAdd, Nat.reduceMul, Nat.reduceLeDiff, Int.reduceLE, Int.reduceLT, Int.reduceEq, Int.reduceToNat, Int.reduceAdd, Int.reduceSub, Int.reduceMul, Int.reduceNeg, reduceCtorEq, Option.bind_some, Option.map_some, List.length_cons, List.length_nil, vcM, List.getElem?_toArray, List.getElem?_cons_zero, List.getElem?_cons_succ, b1])
    (refine W_at c21_ok ?_; refine ⟨_, rfl, ?_⟩; simp (disch := first | omega | assumption | rfl | (simp only [vcS] <;> omega) | fail) only [↓ptV_l, ↓vcA, vcB, ↓vcD, vcE, ↓reduceIte, Nat.reduceEqDiff, Nat.reduceAdd, Nat.reduceMul, Nat.reduceLeDiff, Int.reduceLE, Int.reduceLT, Int.reduceEq, Int.reduceToNat, Int.reduceAdd, Int.reduceSub, Int.reduceMul, Int.reduceNeg, reduceCtorEq, Option.bind_some, Option.map_some, List.length_cons, List.length_nil, vcM, List.getElem?_toArray, List.getElem?_cons_zero, List.getElem?_cons_succ])
    exact bad (none_of fun h => a1 h.1) _
set_option maxHeartbeats 6400000 in
theorem rk_multi {w w1 : World} {x : Value} {s : List Int} (hx : Rd w1 x s) (hb : byt s) (hl : s.length ≤ 1000000) (hE : Ext w w1)
    (hk : kindG s = match multiF s with | some ps => (5, ps) | none => if preB s [106] && pushesF (s.drop 1) then (6, [s.drop 1]) else (0, [])) (tl : Env) :
    W Try.prog (Ret fun u w' => RKindTo w w' s u) 21 25 ((0, x) :: (4, .int .i64 (s.length : Nat)) :: tl) w1 := by
  by_cases h0 : 0 < (s.length : Int)
  · have hil : s.length - 1 < s.length := by omega
    have hws : IntKind.i64.wrap ((s.length : Int) - 1) = ((s.length - 1 : Nat) : Int) := by rw [wrap_i64 (by omega) (by omega)]; omega
    have hi2 : 0 ≤ ((s.length - 1 : Nat) : Int) ∧ ((s.length - 1 : Nat) : Int) < (s.length : Nat) := by omega
    obtain ⟨b1, o1, c1, ex, hcl⟩ := hx.at hil
    have hlg : s.getLast? = some s[s.length - 1] := by rw [List.getLast?_eq_getElem?, List.getElem?_eq_getElem hil]
    by_cases h174 : s[s.length - 1] = 174
    · rw [h174] at hcl
      rw [ex]
      (refine W_at c21_ok ?_; refine ⟨_, rfl, ?_⟩; simp (disch := first | omega | assumption | rfl | (simp only [vcS] <;> omega) | fail) only [↓ptV_l, ↓vcA, vcB, ↓vcD, vcE, ↓reduceIte, Nat.reduceEqDiff, Nat.reduceAdd, Nat.reduceMul, Nat.reduceLeDiff, Int.reduceLE, Int.reduceLT, Int.reduceEq, Int.reduceToNat, Int.reduceAdd, Int.reduceSub, Int.reduceMul, Int.reduceNeg, reduceCtorEq, Option.bind_some, Option.map_some, List.length_cons, List.length_nil, vcM, List.getElem?_toArray, List.getElem?_cons_zero, List.getElem?_cons_succ, h0, hws, hi2, Int.toNat_natCast, Nat.mul_one, hcl])
      rw [← ex]
      (refine W_at c21_ok ?_; refine ⟨_, rfl, ?_⟩; simp (disch := first | omega | assumption | rfl | (simp only [vcS] <;> omega) | fail) only [↓ptV_l, ↓vcA, vcB, ↓vcD, vcE, ↓reduceIte, Nat.reduceEqDiff, Nat.reduceAdd, Nat.reduceMul, Nat.reduceLeDiff, Int.reduceLE, Int.reduceLT, Int.reduceEq, Int.reduceToNat, Int.reduceAdd, Int.reduceSub, Int.reduceMul, Int.reduceNeg, reduceCtorEq, Option.bind_some, Option.map_some, List.length_cons, List.length_nil, vcM, List.getElem?_toArray, List.getElem?_cons_zero, List.getElem?_cons_succ])
      clear hcl hi2 hws
      exact rk_ops hx hb hl hE (by rw [rm_eq hb]; exact hk) _
    · have hk2 : kindG s = if preB s [106] && pushesF (s.drop 1) then (6, [s.drop 1]) else (0, []) := by
        rw [hk, multi_last (by rw [hlg]; intro h; exact h174 (Option.some.inj h))]
      generalize s[s.length - 1] = z at hcl h174
      rw [ex]
      (refine W_at c21_ok ?_; refine ⟨_, rfl, ?_⟩; simp (disch := first | omega | assumption | rfl | (simp only [vcS] <;> omega) | fail) only [↓ptV_l, ↓vcA, vcB, ↓vcD, vcE, ↓reduceIte, Nat.reduceEqDiff, Nat.reduceAdd, Nat.reduceMul, Nat.reduceLeDiff, Int.reduceLE, Int.reduceLT, Int.reduceEq, Int.reduceToNat, Int.reduceAdd, Int.reduceSub, Int.reduceMul, Int.reduceNeg, reduceCtorEq, Option.bind_some, Option.map_some, List.length_cons, List.length_nil, vcM, List.getElem?_toArray, List.getElem?_cons_zero, List.getElem?_cons_succ, h0, hws, hi2, Int.toNat_natCast, Nat.mul_one, hcl, h174])
      rw [← ex]
      (refine W_at c21_ok ?_; refine ⟨_, rfl, ?_⟩; simp (disch := first | omega | assumption | rfl | (simp only [vcS] <;> omega) | fail) only [↓ptV_l, ↓vcA, vcB, ↓vcD, vcE, ↓reduceIte, Nat.reduceEqDiff, Nat.reduceAdd, Nat.reduceMul, Nat.reduceLeDiff, Int.reduceLE, Int.reduceLT, Int.reduceEq, Int.reduceToNat, Int.reduceAdd, Int.reduceSub, Int.reduceMul, Int.reduceNeg, reduceCtorEq, Option.bind_some, Option.map_some, List.length_cons, List.length_nil, vcM, List.getElem?_toArray, List.getElem?_cons_zero, List.getElem?_cons_succ])
      exact rk_data hx hb hl hE hk2 _
  · have hs : s = [] := List.eq_nil_of_length_eq_zero (by omega)
    have hk2 : kindG s = if preB s [106] && pushesF (s.drop 1) then (6, [s.drop 1]) else (0, []) := by
      rw [hk, multi_last (by rw [hs]; intro h; cases h)]
    (refine W_at c21_ok ?_; refine ⟨_, rfl, ?_⟩; simp (disch := first | omega | assumption | rfl | (simp only [vcS] <;> omega) | fail) only [↓ptV_l, ↓vcA, vcB, ↓vcD, vcE, ↓reduceIte, Nat.reduceEqDiff, Nat.reduceAdd, Nat.reduceMul, Nat.reduceLeDiff, Int.reduceLE, Int.reduceLT, Int.reduceEq, Int.reduceToNat, Int.reduceAdd, Int.reduceSub, Int.reduceMul, Int.reduceNeg, reduceCtorEq, Option.bind_some, Option.map_some, List.length_cons, List.length_nil, vcM, List.getElem?_toArray, List.getElem?_cons_zero, List.getElem?_cons_succ, h0])
    (refine W_at c21_ok ?_; refine ⟨_, rfl, ?_⟩; simp (disch := first | omega | assumption | rfl | (simp only [vcS] <;> omega) | fail) only [↓ptV_l, ↓vcA, vcB, ↓vcD, vcE, ↓reduceIte, Nat.reduceEqDiff, Nat.reduceAdd, Nat.reduceMul, Nat.reduceLeDiff, Int.reduceLE, Int.reduceLT, Int.reduceEq, Int.reduceToNat, Int.reduceAdd, Int.reduceSub, Int.reduceMul, Int.reduceNeg, reduceCtorEq, Option.bind_some, Option.map_some, List.length_cons, List.length_nil, vcM, List.getElem?_toArray, List.getElem?_cons_zero, List.getElem?_cons_succ])
    exact rk_data hx hb hl hE hk2 _
end Go.Proofs
namespace Go.Proofs
open Go.Vc
set_option maxRecDepth 10000

def kindM (s : List Int) : Int × List (List Int) := match multiF s with
  | some ps => (5, ps)
  | none => if preB s [106] && pushesF (s.drop 1) then (6, [s.drop 1]) else (0, [])
def kindP (s : List Int) : Int × List (List Int) := match progF s with
  | some (v, p) => if v = 0 ∧ p.length = 20 then (3, [p]) else if v = 0 ∧ p.length = 32 then (4, [p]) else (7, [[v], p])
  | none => kindM s
def kindS (s : List Int) : Int × List (List Int) := match betF s [169, 20] [135] 20 with
  | some h => (2, [h])
  | none => kindP s
theorem kindG_eq (s : List Int) : kindG s = match betF s [118, 169, 20] [136, 172] 20 with
    | some h => (1, [h])
    | none => kindS s := rfl
set_option maxHeartbeats 6400000 in
theorem rk_prog {w w1 : World} {x : Value} {s : List Int} (hx : Rd w1 x s) (hb : byt s) (hl : s.length ≤ 1000000) (hE : Ext w w1) (hk : kindG s = kindP s) (tl : Env) :
    W Try.prog (Ret fun u w' => RKindTo w w' s u) 21 38 ((0, x) :: (4, .int .i64 (s.length : Nat)) :: tl) w1 := by
  (refine W_at c21_ok ?_; refine ⟨_, rfl, ?_⟩; simp (disch := first | omega | assumption | rfl | (simp only [vcS] <;> omega) | fail) only [↓vcL1, ptS2_eq, ↓vcA, vcB, ↓vcD, vcE, ↓reduceIte, Nat.reduceEqDiff, Nat.reduceAdd, Nat.reduceMul, Nat.reduceLeDiff, Int.reduceLE, Int.reduceLT, Int.reduceEq, Int.reduceToNat, Int.reduceAdd, Int.reduceSub, Int.reduceMul, Int.reduceNeg, reduceCtorEq, Option.bind_some, Option.map_some, List.length_cons, List.length_nil, vcM, List.getElem?_toArray, List.getElem?_cons_zero, List.getElem?_cons_succ])
  refine callV_ret (rprogram_ok w1 x s hx hb (by omega)) ?_
  rintro _ w2 ⟨v, d, rfl, hE2, hpr⟩
  have hE02 := hE.ext hE2
  have hx2 := hx.ext hE2
  simp (disch := first | omega | assumption | rfl | (simp only [vcS] <;> omega) | fail) only [↓vcL2, ptS1_eq, ↓vcA, vcB, ↓vcD, vcE, ↓reduceIte, Nat.reduceEqDiff, Nat.reduceAdd, Nat.reduceMul, Nat.reduceLeDiff, Int.reduceLE, Int.reduceLT, Int.reduceEq, Int.reduceToNat, Int.reduceAdd, Int.reduceSub, Int.reduceMul, Int.reduceNeg, reduceCtorEq, Option.bind_some, Option.map_some, List.length_cons, List.length_nil, vcM, List.getElem?_toArray, List.getElem?_cons_zero, List.getElem?_cons_succ]
  cases hP : progF s with
  | none =>
    rw [hP] at hpr
    obtain ⟨rfl, rfl⟩ := hpr
    have hk2 : kindG s = kindM s := by rw [hk, kindP, hP]
    (refine W_at c21_ok ?_; refine ⟨_, rfl, ?_⟩; simp (disch := first | omega | assumption | rfl | (simp only [vcS] <;> omega) | fail) only [↓ptV_l, ↓vcA, vcB, ↓vcD, vcE, ↓reduceIte, Nat.reduceEqDiff, Nat.reduceAdd, Nat.reduceMul, Nat.reduceLeDiff, Int.reduceLE, Int.reduceLT, Int.reduceEq, Int.reduceToNat, Int.reduceAdd, Int.reduceSub, Int.reduceMul, Int.reduceNeg, reduceCtorEq, Option.bind_some, Option.map_some, List.length_cons, List.length_nil, vcM, List.getElem?_toArray, List.getElem?_cons_zero, List.getElem?_cons_succ])
    (refine W_at c21_ok ?_; refine ⟨_, rfl, ?_⟩; simp (disch := first | omega | assumption | rfl | (simp only [vcS] <;> omega) | fail) only [↓ptV_l, ↓vcA, vcB, ↓vcD, vcE, ↓reduceIte, Nat.reduceEqDiff, Nat.reduceAdd, Nat.reduceMul, Nat.reduceLeDiff, Int.reduceLE, Int.reduceLT, Int.reduceEq, Int.reduceToNat, Int.reduceAdd, Int.reduceSub, Int.reduceMul, Int.reduceNeg, reduceCtorEq, Option.bind_some, Option.map_some, List.length_cons, List.length_nil, vcM, List.getElem?_toArray, List.getElem?_cons_zero, List.getElem?_cons_succ])
    (refine W_at c21_ok ?_; refine ⟨_, rfl, ?_⟩; simp (disch := first | omega | assumption | rfl | (simp only [vcS] <;> omega) | fail) only [↓ptV_l, ↓vcA, vcB, ↓vcD, vcE, ↓reduceIte, Nat.reduceEqDiff, Nat.reduceAdd, Nat.reduceMul, Nat.reduceLeDiff, Int.reduceLE, Int.reduceLT, Int.reduceEq, Int.reduceToNat, Int.reduceAdd, Int.reduceSub, Int.reduceMul, Int.reduceNeg, reduceCtorEq, Option.bind_some, Option.map_some, List.length_cons, List.length_nil, vcM, List.getElem?_toArray, List.getElem?_cons_zero, List.getElem?_cons_succ])
    (refine W_at c21_ok ?_; refine ⟨_, rfl, ?_⟩; simp (disch := first | omega | assumption | rfl | (simp only [vcS] <;> omega) | fail) only [↓ptV_l, ↓vcA, vcB, ↓vcD, vcE, ↓reduceIte, Nat.reduceEqDiff, Nat.reduceAdd, Nat.reduceMul, Nat.reduceLeDiff, Int.reduceLE, Int.reduceLT, Int.reduceEq, Int.reduceToNat, Int.reduceAdd, Int.reduceSub, Int.reduceMul, Int.reduceNeg, reduceCtorEq, Option.bind_some, Option.map_some, List.length_cons, List.length_nil, vcM, List.getElem?_toArray, List.getElem?_cons_zero, List.getElem?_cons_succ])
    (refine W_at c21_ok ?_; refine ⟨_, rfl, ?_⟩; simp (disch := first | omega | assumption | rfl | (simp only [vcS] <;> omega) | fail) only [↓ptV_l, ↓vcA, vcB, ↓vcD, vcE, ↓reduceIte, Nat.reduceEqDiff, Nat.reduceAdd, Nat.reduceMul, Nat.reduceLeDiff, Int.reduceLE, Int.reduceLT, Int.reduceEq, Int.reduceToNat, Int.reduceAdd, Int.reduceSub, Int.reduceMul, Int.reduceNeg, reduceCtorEq, Option.bind_some, Option.map_some, List.length_cons, List.length_nil, vcM, List.getElem?_toArray, List.getElem?_cons_zero, List.getElem?_cons_succ])
    (refine W_at c21_ok ?_; refine ⟨_, rfl, ?_⟩; simp (disch := first | omega | assumption | rfl | (simp only [vcS] <;> omega) | fail) only [↓ptV_l, ↓vcA, vcB, ↓vcD, vcE, ↓reduceIte, Nat.reduceEqDiff, Nat.reduceAdd, Nat.reduceMul, Nat.reduceLeDiff, Int.reduceLE, Int.reduceLT, Int.reduceEq, Int.reduceToNat, Int.reduceAdd, Int.reduceSub, Int.reduceMul, Int.reduceNeg, reduceCtorEq, Option.bind_some, Option.map_some, List.length_cons, List.length_nil, vcM, List.getElem?_toArray, List.getElem?_cons_zero, List.getElem?_cons_succ])
    exact rk_multi hx2 hb hl hE02 hk2 _
  | some vp =>
    obtain ⟨v', p⟩ := vp
    rw [hP] at hpr
    obtain ⟨rfl, hOd⟩ := hpr
    have hRd := hOd.rd
    have hdl := hRd.len
    have hcd : d.cells = #[d] := by obtain ⟨q, c, e, _⟩ := hRd.is; rw [e]; rfl
    have hkind : kindG s = if v = 0 ∧ p.length = 20 then (3, [p]) else if v = 0 ∧ p.length = 32 then (4, [p]) else (7, [[v], p]) := by rw [hk, kindP, hP]
    have hvr : 0 ≤ v ∧ v ≤ 16 := by
      unfold progF at hP
      split at hP
      · split at hP
        · rename_i a b t hcnd
          simp only [Option.some.injEq, Prod.mk.injEq] at hP
          have := smallF_r a
          omega
        · cases hP
      · cases hP
    have hwv : IntKind.u8.wrap v = v := by rw [wrap_u8]; omega
    have hv0' : 0 ≤ v := hvr.1
    have hother : (¬ (v = 0 ∧ p.length = 20)) → ¬ (v = 0 ∧ p.length = 32) → ∀ (tl : Env), W Try.prog (Ret fun u w' => RKindTo w w' s u) 21 29 ((0, x) :: (4, .int .i64 (s.length : Nat)) :: (5, .int .i64 v) :: (6, d) :: tl) w2 := by
      intro n1 n2 tl
      have hcs : Value.cells (.slice (some ⟨w2.heap.size, 0, none⟩) 1 1) = #[.slice (some ⟨w2.heap.size, 0, none⟩) 1 1] := rfl
      (refine W_at c21_ok ?_; refine ⟨_, rfl, ?_⟩; simp (disch := first | omega | assumption | rfl | (simp only [vcS] <;> omega) | fail) only [↓ptV_l, ↓vcA, vcB, ↓vcD, vcE, ↓reduceIte, Nat.reduceEqDiff, Nat.reduceAdd, Nat.reduceMul, Nat.reduceLeDiff, Int.reduceLE, Int.reduceLT, Int.reduceEq, Int.reduceToNat, Int.reduceAdd, Int.reduceSub, Int.reduceMul, Int.reduceNeg, reduceCtorEq, Option.bind_some, Option.map_some, List.length_cons, List.length_nil, vcM, List.getElem?_toArray, List.getElem?_cons_zero, List.getElem?_cons_succ, hv0'])
      (refine W_at c21_ok ?_; refine ⟨_, rfl, ?_⟩; simp (disch := first | omega | assumption | rfl | (simp only [vcS] <;> omega) | fail) only [↓ptV_l, ↓vcA, vcB, ↓vcD, vcE, ↓reduceIte, Nat.reduceEqDiff, Nat.reduceAdd, Nat.reduceMul, Nat.reduceLeDiff, Int.reduceLE, Int.reduceLT, Int.reduceEq, Int.reduceToNat, Int.reduceAdd, Int.reduceSub, Int.reduceMul, Int.reduceNeg, reduceCtorEq, Option.bind_some, Option.map_some, List.length_cons, List.length_nil, vcM, List.getElem?_toArray, List.getElem?_cons_zero, List.getElem?_cons_succ])
      (refine W_at c21_ok ?_; refine ⟨_, rfl, ?_⟩; simp (disch := first | omega | assumption | rfl | (simp only [vcS] <;> omega) | fail) only [↓ptV_l, ↓vcA, vcB, ↓vcD, vcE, ↓reduceIte, Nat.reduceEqDiff, Nat.reduceAdd, Nat.reduceMul, Nat.reduceLeDiff, Int.reduceLE, Int.reduceLT, Int.reduceEq, Int.reduceToNat, Int.reduceAdd, Int.reduceSub, Int.reduceMul, Int.reduceNeg, reduceCtorEq, Option.bind_some, Option.map_some, List.length_cons, List.length_nil, vcM, List.getElem?_toArray, List.getElem?_cons_zero, List.getElem?_cons_succ, hwv, hcd, hcs])
      (refine W_at c21_ok ?_; refine ⟨_, rfl, ?_⟩; simp (disch := first | omega | assumption | rfl | (simp only [vcS] <;> omega) | fail) only [↓ptV_l, ↓vcA, vcB, ↓vcD, vcE, ↓reduceIte, Nat.reduceEqDiff, Nat.reduceAdd, Nat.reduceMul, Nat.reduceLeDiff, Int.reduceLE, Int.reduceLT, Int.reduceEq, Int.reduceToNat, Int.reduceAdd, Int.reduceSub, Int.reduceMul, Int.reduceNeg, reduceCtorEq, Option.bind_some, Option.map_some, List.length_cons, List.length_nil, vcM, List.getElem?_toArray, List.getElem?_cons_zero, List.getElem?_cons_succ, Ret_returned])
      have hl1 : Rd (w2.alloc (.cells (bv [v]).toArray 5)) (.slice (some ⟨w2.heap.size, 0, none⟩) 1 1) [v] := (own_lit1 (w := w2) (bs := [v]) (by show 1 ≤ 9223372036854775807; decide)).rd
      have hE3 : Ext w2 (w2.alloc (.cells (bv [v]).toArray 5)) := (Keep.refl _ w2).alloc _
      have hp2 := PartsAt.lit2 hl1 (hRd.ext hE3)
      rw [size_alloc] at hp2
      refine ⟨_, ?_, by rw [hkind, if_neg n1, if_neg n2]; exact hp2, (hE02.ext hE3).alloc _⟩
      rw [hkind, if_neg n1, if_neg n2]
    by_cases hv0 : v = 0
    · by_cases h20 : p.length = 20
      · have hd20 : ((p.length : Nat) : Int) = 20 := by omega
        (refine W_at c21_ok ?_; refine ⟨_, rfl, ?_⟩; simp (disch := first | omega | assumption | rfl | (simp only [vcS] <;> omega) | fail) only [↓ptV_l, ↓vcA, vcB, ↓vcD, vcE, ↓reduceIte, Nat.reduceEqDiff, Nat.reduceAdd, Nat.reduceMul, Nat.reduceLeDiff, Int.reduceLE, Int.reduceLT, Int.reduceEq, Int.reduceToNat, Int.reduceAdd, Int.reduceSub, Int.reduceMul, Int.reduceNeg, reduceCtorEq, Option.bind_some, Option.map_some, List.length_cons, List.length_nil, vcM, List.getElem?_toArray, List.getElem?_cons_zero, List.getElem?_cons_succ, hv0, hdl, hd20])
        (refine W_at c21_ok ?_; refine ⟨_, rfl, ?_⟩; simp (disch := first | omega | assumption | rfl | (simp only [vcS] <;> omega) | fail) only [↓ptV_l, ↓vcA, vcB, ↓vcD, vcE, ↓reduceIte, Nat.reduceEqDiff, Nat.reduceAdd, Nat.reduceMul, Nat.reduceLeDiff, Int.reduceLE, Int.reduceLT, Int.reduceEq, Int.reduceToNat, Int.reduceAdd, Int.reduceSub, Int.reduceMul, Int.reduceNeg, reduceCtorEq, Option.bind_some, Option.map_some, List.length_cons, List.length_nil, vcM, List.getElem?_toArray, List.getElem?_cons_zero, List.getElem?_cons_succ])
        (refine W_at c21_ok ?_; refine ⟨_, rfl, ?_⟩; simp (disch := first | omega | assumption | rfl | (simp only [vcS] <;> omega) | fail) only [↓ptV_l, ↓vcA, vcB, ↓vcD, vcE, ↓reduceIte, Nat.reduceEqDiff, Nat.reduceAdd, Nat.reduceMul, Nat.reduceLeDiff, Int.reduceLE, Int.reduceLT, Int.reduceEq, Int.reduceToNat, Int.reduceAdd, Int.reduceSub, Int.reduceMul, Int.reduceNeg, reduceCtorEq, Option.bind_some, Option.map_some, List.length_cons, List.length_nil, vcM, List.getElem?_toArray, List.getElem?_cons_zero, List.getElem?_cons_succ, hcd])
        (refine W_at c21_ok ?_; refine ⟨_, rfl, ?_⟩; simp (disch := first | omega | assumption | rfl | (simp only [vcS] <;> omega) | fail) only [↓ptV_l, ↓vcA, vcB, ↓vcD, vcE, ↓reduceIte, Nat.reduceEqDiff, Nat.reduceAdd, Nat.reduceMul, Nat.reduceLeDiff, Int.reduceLE, Int.reduceLT, Int.reduceEq, Int.reduceToNat, Int.reduceAdd, Int.reduceSub, Int.reduceMul, Int.reduceNeg, reduceCtorEq, Option.bind_some, Option.map_some, List.length_cons, List.length_nil, vcM, List.getElem?_toArray, List.getElem?_cons_zero, List.getElem?_cons_succ, Ret_returned])
        refine ⟨_, ?_, by rw [hkind, if_pos ⟨hv0, h20⟩]; exact PartsAt.lit1 hRd, hE02.alloc _⟩
        rw [hkind, if_pos ⟨hv0, h20⟩]
      · have hd20 : ¬ ((p.length : Nat) : Int) = 20 := by omega
        by_cases h32 : p.length = 32
        · have hd32 : ((p.length : Nat) : Int) = 32 := by omega
          (refine W_at c21_ok ?_; refine ⟨_, rfl, ?_⟩; simp (disch := first | omega | assumption | rfl | (simp only [vcS] <;> omega) | fail) only [↓ptV_l, ↓vcA, vcB, ↓vcD, vcE, ↓reduceIte, Nat.reduceEqDiff, Nat.reduceAdd, Nat.reduceMul, Nat.reduceLeDiff, Int.reduceLE, Int.reduceLT, Int.reduceEq, Int.reduceToNat, Int.reduceAdd, Int.reduceSub, Int.reduceMul, Int.reduceNeg, reduceCtorEq, Option.bind_some, Option.map_some, List.length_cons, List.length_nil, vcM, List.getElem?_toArray, List.getElem?_cons_zero, List.getElem?_cons_succ, hv0, hdl, hd20])
          (refine W_at c21_ok ?_; refine ⟨_, rfl, ?_⟩; simp (disch := first | omega | assumption | rfl | (simp only [vcS] <;> omega) | fail) only [↓ptV_l, ↓vcA, vcB, ↓vcD, vcE, ↓reduceIte, Nat.reduceEqDiff, Nat.reduceAdd, Nat.reduceMul, Nat.reduceLeDiff, Int.reduceLE, Int.reduceLT, Int.reduceEq, Int.reduceToNat, Int.reduceAdd, Int.reduceSub, Int.reduceMul, Int.reduceNeg, reduceCtorEq, Option.bind_some, Option.map_some, List.length_cons, List.length_nil, vcM, List.getElem?_toArray, List.getElem?_cons_zero, List.getElem?_cons_succ])
          (refine W_at c21_ok ?_; refine ⟨_, rfl, ?_⟩; simp (disch := first | omega | assumption | rfl | (simp only [vcS] <;> omega) | fail) only [↓ptV_l, ↓vcA, vcB, ↓vcD, vcE, ↓reduceIte, Nat.reduceEqDiff, Nat.reduceAdd, Nat.reduceMul, Nat.reduceLeDiff, Int.reduceLE, Int.reduceLT, Int.reduceEq, Int.reduceToNat, Int.reduceAdd, Int.reduceSub, Int.reduceMul, Int.reduceNeg, reduceCtorEq, Option.bind_some, Option.map_some, List.length_cons, List.length_nil, vcM, List.getElem?_toArray, List.getElem?_cons_zero, List.getElem?_cons_succ, hv0, hdl, hd32])
          (refine W_at c21_ok ?_; refine ⟨_, rfl, ?_⟩; simp (disch := first | omega | assumption | rfl | (simp only [vcS] <;> omega) | fail) only [↓ptV_l, ↓vcA, vcB, ↓vcD, vcE, ↓reduceIte, Nat.reduceEqDiff, Nat.reduceAdd, Nat.reduceMul, Nat.reduceLeDiff, Int.reduceLE, Int.reduceLT, Int.reduceEq, Int.reduceToNat, Int.reduceAdd, Int.reduceSub, Int.reduceMul, Int.reduceNeg, reduceCtorEq, Option.bind_some, Option.map_some, List.length_cons, List.length_nil, vcM, List.getElem?_toArray, List.getElem?_cons_zero, List.getElem?_cons_succ])
          (refine W_at c21_ok ?_; refine ⟨_, rfl, ?_⟩; simp (disch := first | omega | assumption | rfl | (simp only [vcS] <;> omega) | fail) only [↓ptV_l, ↓vcA, vcB, ↓vcD, vcE, ↓reduceIte, Nat.reduceEqDiff, Nat.reduceAdd, Nat.reduceMul, Nat.reduceLeDiff, Int.reduceLE, Int.reduceLT, Int.reduceEq, Int.reduceToNat, Int.reduceAdd, Int.reduceSub, Int.reduceMul, Int.reduceNeg, reduceCtorEq, Option.bind_some, Option.map_some, List.length_cons, List.length_nil, vcM, List.getElem?_toArray, List.getElem?_cons_zero, List.getElem?_cons_succ, hcd])
          (refine W_at c21_ok ?_; refine ⟨_, rfl, ?_⟩; simp (disch := first | omega | assumption | rfl | (simp only [vcS] <;> omega) | fail) only [↓ptV_l, ↓vcA, vcB, ↓vcD, vcE, ↓reduceIte, Nat.reduceEqDiff, Nat.reduceAdd, Nat.reduceMul, Nat.reduceLeDiff, Int.reduceLE, Int.reduceLT, Int.reduceEq, Int.reduceToNat, Int.reduceAdd, Int.reduceSub, Int.reduceMul, Int.reduceNeg, reduceCtorEq, Option.bind_some, Option.map_some, List.length_cons, List.length_nil, vcM, List.getElem?_toArray, List.getElem?_cons_zero, List.getElem?_cons_succ, Ret_returned])
          refine ⟨_, ?_, by rw [hkind, if_neg (fun h => h20 h.2), if_pos ⟨hv0, h32⟩]; exact PartsAt.lit1 hRd, hE02.alloc _⟩
          rw [hkind, if_neg (fun h => h20 h.2), if_pos ⟨hv0, h32⟩]
        · have hd32 : ¬ ((p.length : Nat) : Int) = 32 := by omega
          (refine W_at c21_ok ?_; refine ⟨_, rfl, ?_⟩; simp (disch := first | omega | assumption | rfl | (simp only [vcS] <;> omega) | fail) only [↓ptV_l, ↓vcA, vcB, ↓vcD, vcE, ↓reduceIte, Nat.reduceEqDiff, Nat.reduceAdd, Nat.reduceMul, Nat.reduceLeDiff, Int.reduceLE, Int.reduceLT, Int.reduceEq, Int.reduceToNat, Int.reduceAdd, Int.reduceSub, Int.reduceMul, Int.reduceNeg, reduceCtorEq, Option.bind_some, Option.map_some, List.length_cons, List.length_nil, vcM, List.getElem?_toArray, List.getElem?_cons_zero, List.getElem?_cons_succ, hv0, hdl, hd20])
          (refine W_at c21_ok ?_; refine ⟨_, rfl, ?_⟩; simp (disch := first | omega | assumption | rfl | (simp only [vcS] <;> omega) | fail) only [↓ptV_l, ↓vcA, vcB, ↓vcD, vcE, ↓reduceIte, Nat.reduceEqDiff, Nat.reduceAdd, Nat.reduceMul, Nat.reduceLeDiff, Int.reduceLE, Int.reduceLT, Int.reduceEq, Int.reduceToNat, Int.reduceAdd, Int.reduceSub, Int.reduceMul, Int.reduceNeg, reduceCtorEq, Option.bind_some, Option.map_some, List.length_cons, List.length_nil, vcM, List.getElem?_toArray, List.getElem?_cons_zero, List.getElem?_cons_succ])
          (refine W_at c21_ok ?_; refine ⟨_, rfl, ?_⟩; simp (disch := first | omega | assumption | rfl | (simp only [vcS] <;> omega) | fail) only [↓ptV_l, ↓vcA, vcB, ↓vcD, vcE, ↓reduceIte, Nat.reduceEqDiff, Nat.reduceAdd, Nat.reduceMul, Nat.reduceLeDiff, Int.reduceLE, Int.reduceLT, Int.reduceEq, Int.reduceToNat, Int.reduceAdd, Int.reduceSub, Int.reduceMul, Int.reduceNeg, reduceCtorEq, Option.bind_some, Option.map_some, List.length_cons, List.length_nil, vcM, List.getElem?_toArray, List.getElem?_cons_zero, List.getElem?_cons_succ, hv0, hdl, hd32])
          (refine W_at c21_ok ?_; refine ⟨_, rfl, ?_⟩; simp (disch := first | omega | assumption | rfl | (simp only [vcS] <;> omega) | fail) only [↓ptV_l, ↓vcA, vcB, ↓vcD, vcE, ↓reduceIte, Nat.reduceEqDiff, Nat.reduceAdd, Nat.reduceMul, Nat.reduceLeDiff, Int.reduceLE, Int.reduceLT, Int.reduceEq, Int.reduceToNat, Int.reduceAdd, Int.reduceSub, Int.reduceMul, Int.reduceNeg, reduceCtorEq, Option.bind_some, Option.map_some, List.length_cons, List.length_nil, vcM, List.getElem?_toArray, List.getElem?_cons_zero, List.getElem?_cons_succ])
          have := hother (fun h => h20 h.2) (fun h => h32 h.2) [(75, .bool false)]
          rw [hv0] at this
          exact this
    · (refine W_at c21_ok ?_; refine ⟨_, rfl, ?_⟩; simp (disch := first | omega | assumption | rfl | (simp only [vcS] <;> omega) | fail) only [↓ptV_l, ↓vcA, vcB, ↓vcD, vcE, ↓reduceIte, Nat.reduceEqDiff, Nat.reduceAdd, Nat.reduceMul, Nat.reduceLeDiff, Int.reduceLE, Int.reduceLT, Int.reduceEq, Int.reduceToNat, Int.reduceAdd, Int.reduceSub, Int.reduceMul, Int.reduceNeg, reduceCtorEq, Option.bind_some, Option.map_some, List.length_cons, List.length_nil, vcM, List.getElem?_toArray, List.getElem?_cons_zero, List.getElem?_cons_succ, hv0])
      (refine W_at c21_ok ?_; refine ⟨_, rfl, ?_⟩; simp (disch := first | omega | assumption | rfl | (simp only [vcS] <;> omega) | fail) only [↓ptV_l, ↓vcA, vcB, ↓vcD, vcE, ↓reduceIte, Nat.reduceEqDiff, Nat.reduceAdd, Nat.reduceMul, Nat.reduceLeDiff, Int.reduceLE, Int.reduceLT, Int.reduceEq, Int.reduceToNat, Int.reduceAdd, Int.reduceSub, Int.reduceMul, Int.reduceNeg, reduceCtorEq, Option.bind_some, Option.map_some, List.length_cons, List.length_nil, vcM, List.getElem?_toArray, List.getElem?_cons_zero, List.getElem?_cons_succ])
      (refine W_at c21_ok ?_; refine ⟨_, rfl, ?_⟩; simp (disch := first | omega | assumption | rfl | (simp only [vcS] <;> omega) | fail) only [↓ptV_l, ↓vcA, vcB, ↓vcD, vcE, ↓reduceIte, Nat.reduceEqDiff, Nat.reduceAdd, Nat.reduceMul, Nat.reduceLeDiff, Int.reduceLE, Int.reduceLT, Int.reduceEq, Int.reduceToNat, Int.reduceAdd, Int.reduceSub, Int.reduceMul, Int.reduceNeg, reduceCtorEq, Option.bind_some, Option.map_some, List.length_cons, List.length_nil, vcM, List.getElem?_toArray, List.getElem?_cons_zero, List.getElem?_cons_succ, hv0])
      (refine W_at c21_ok ?_; refine ⟨_, rfl, ?_⟩; simp (disch := first | omega | assumption | rfl | (simp only [vcS] <;> omega) | fail) only [↓ptV_l, ↓vcA, vcB, ↓vcD, vcE, ↓reduceIte, Nat.reduceEqDiff, Nat.reduceAdd, Nat.reduceMul, Nat.reduceLeDiff, Int.reduceLE, Int.reduceLT, Int.reduceEq, Int.reduceToNat, Int.reduceAdd, Int.reduceSub, Int.reduceMul, Int.reduceNeg, reduceCtorEq, Option.bind_some, Option.map_some, List.length_cons, List.length_nil, vcM, List.getElem?_toArray, List.getElem?_cons_zero, List.getElem?_cons_succ])
      exact hother (fun h => hv0 h.1) (fun h => hv0 h.1) _
end Go.Proofs
namespace Go.Proofs
open Go.Vc
set_option maxRecDepth 10000

theorem drop_one {s : List Int} {i : Nat} {a : Int} (h : s.length = i + 1) : s.drop i = [a] ↔ s[i]'(by omega) = a := by
  rw [List.drop_eq_getElem_cons (by omega), List.drop_of_length_le (by omega)]
  simp
theorem drop_two {s : List Int} {i : Nat} {a b : Int} (h : s.length = i + 2) : s.drop i = [a, b] ↔ s[i]'(by omega) = a ∧ s[i + 1]'(by omega) = b := by
  rw [List.drop_eq_getElem_cons (by omega), List.drop_eq_getElem_cons (by omega), List.drop_of_length_le (by omega)]
  simp
set_option maxHeartbeats 6400000 in
theorem rk_sh {w w1 : World} {x : Value} {s : List Int} (hx : Rd w1 x s) (hb : byt s) (hl : s.length ≤ 1000000) (hE : Ext w w1) (hk : kindG s = kindS s) (tl : Env) :
    W Try.prog (Ret fun u w' => RKindTo w w' s u) 21 42 ((0, x) :: (4, .int .i64 (s.length : Nat)) :: tl) w1 := by
  have hbt : betF s [169, 20] [135] 20 = if s.length = 23 ∧ preB s [169, 20] = true ∧ s.drop 22 = [135] then some ((s.take 22).drop 2) else none := betG s [169, 20] [135] 20
  have no : ¬ (s.length = 23 ∧ preB s [169, 20] = true ∧ s.drop 22 = [135]) → ∀ (n : Int) (tl : Env) (wz : World), n = (s.length : Nat) → Ext w1 wz → W Try.prog (Ret fun u w' => RKindTo w w' s u) 21 38 ((0, x) :: (4, .int .i64 n) :: tl) wz := fun hn n tl wz hnn hz => by
    subst hnn
    rw [if_neg hn] at hbt
    exact rk_prog (hx.ext hz) hb hl (hE.ext hz) (by rw [hk, kindS, hbt]) tl
  by_cases h23 : s.length = 23
  · have h23' : ((s.length : Nat) : Int) = 23 := by omega
    have lit : Rd (w1.alloc (.cells (bv [169, 20]).toArray 5)) (.slice (some ⟨w1.heap.size, 0, none⟩) 2 2) [169, 20] := (own_lit1 (w := w1) (bs := [169, 20]) (by show 2 ≤ 9223372036854775807; decide)).rd
    have hE2 : Ext w1 (w1.alloc (.cells (bv [169, 20]).toArray 5)) := (Keep.refl _ w1).alloc _
    obtain ⟨b, o, c, e, hc22⟩ := hx.at (i := 22) (by omega)
    have hcap : s.length ≤ c := by obtain ⟨q, c', e', h⟩ := hx.eq; rw [e] at e'; injection e' with _ _ e3; omega
    subst e
    have i22 : (22 : Int) < (s.length : Nat) := by omega
    have hT22 : (22 : Int).toNat = 22 := rfl
    (refine W_at c21_ok ?_; refine ⟨_, rfl, ?_⟩; simp (disch := first | omega | assumption | rfl | (simp only [vcS] <;> omega) | fail) only [↓vcL1, ptS2_eq, ↓vcA, vcB, ↓vcD, vcE, ↓reduceIte, Nat.reduceEqDiff, Nat.reduceAdd, Nat.reduceMul, Nat.reduceLeDiff, Int.reduceLE, Int.reduceLT, Int.reduceEq, Int.reduceToNat, Int.reduceAdd, Int.reduceSub, Int.reduceMul, Int.reduceNeg, reduceCtorEq, Option.bind_some, Option.map_some, List.length_cons, List.length_nil, vcM, List.getElem?_toArray, List.getElem?_cons_zero, List.getElem?_cons_succ, h23'])
    refine callV_ret (rbegins_ok _ _ _ s [169, 20] (hx.ext hE2) lit hb (by intro z hz; simp at hz; omega)) ?_
    rintro _ wq ⟨rfl, hw⟩
    have hEq : Ext w1 wq := by rw [hw]; exact hE2
    clear hw lit
    have hxq := hx.ext hEq
    obtain ⟨b', o', c', e, hcq⟩ := hxq.at (i := 22) (by omega)
    injection e with e4 _ e5
    cases e4; subst e5
    cases hp : preB s [169, 20] with
    | false =>
      simp (disch := first | omega | assumption | rfl | (simp only [vcS] <;> omega) | fail) only [↓vcL2, ptS1_eq, ↓vcA, vcB, ↓vcD, vcE, ↓reduceIte, Nat.reduceEqDiff, Nat.reduceAdd, Nat.reduceMul, Nat.reduceLeDiff, Int.reduceLE, Int.reduceLT, Int.reduceEq, Int.reduceToNat, Int.reduceAdd, Int.reduceSub, Int.reduceMul, Int.reduceNeg, reduceCtorEq, Option.bind_some, Option.map_some, List.length_cons, List.length_nil, vcM, List.getElem?_toArray, List.getElem?_cons_zero, List.getElem?_cons_succ]
      (refine W_at c21_ok ?_; refine ⟨_, rfl, ?_⟩; simp (disch := first | omega | assumption | rfl | (simp only [vcS] <;> omega) | fail) only [↓ptV_l, ↓vcA, vcB, ↓vcD, vcE, ↓reduceIte, Nat.reduceEqDiff, Nat.reduceAdd, Nat.reduceMul, Nat.reduceLeDiff, Int.reduceLE, Int.reduceLT, Int.reduceEq, Int.reduceToNat, Int.reduceAdd, Int.reduceSub, Int.reduceMul, Int.reduceNeg, reduceCtorEq, Option.bind_some, Option.map_some, List.length_cons, List.length_nil, vcM, List.getElem?_toArray, List.getElem?_cons_zero, List.getElem?_cons_succ])
      exact no (fun h => by rw [hp] at h; cases h.2.1) 23 _ wq h23'.symm hEq
    | true =>
      have d1 := drop_one (s := s) (i := 22) (a := 135) (by omega)
      by_cases h135 : s[22]'(by omega) = 135
      · rw [h135] at hcq
        simp (disch := first | omega | assumption | rfl | (simp only [vcS] <;> omega) | fail) only [↓vcL2, ptS1_eq, ↓vcA, vcB, ↓vcD, vcE, ↓reduceIte, Nat.reduceEqDiff, Nat.reduceAdd, Nat.reduceMul, Nat.reduceLeDiff, Int.reduceLE, Int.reduceLT, Int.reduceEq, Int.reduceToNat, Int.reduceAdd, Int.reduceSub, Int.reduceMul, Int.reduceNeg, reduceCtorEq, Option.bind_some, Option.map_some, List.length_cons, List.length_nil, vcM, List.getElem?_toArray, List.getElem?_cons_zero, List.getElem?_cons_succ, i22, hT22, hcq, Nat.mul_one]
        have hk2 : kindG s = (2, [(s.take 22).drop 2]) := by
          rw [if_pos ⟨h23, hp, d1.2 h135⟩] at hbt
          rw [hk, kindS, hbt]
        have hcut := hxq.cut (l := 2) (j := 22) (by omega) (by omega)
        have hT2 : (2 : Int).toNat = 2 := rfl
        have c22 : (22 : Int) ≤ (c : Nat) := by omega
        have c22' : 0 ≤ (22 : Int) ∧ (22 : Int) ≤ (c : Nat) := by omega
        have c2 : 0 ≤ (2 : Int) ∧ (2 : Int) ≤ 22 := by omega
        (refine W_at c21_ok ?_; refine ⟨_, rfl, ?_⟩; simp (disch := first | omega | assumption | rfl | (simp only [vcS] <;> omega) | fail) only [↓ptV_l, ↓vcA, vcB, ↓vcD, vcE, ↓reduceIte, Nat.reduceEqDiff, Nat.reduceAdd, Nat.reduceMul, Nat.reduceLeDiff, Int.reduceLE, Int.reduceLT, Int.reduceEq, Int.reduceToNat, Int.reduceAdd, Int.reduceSub, Int.reduceMul, Int.reduceNeg, reduceCtorEq, Option.bind_some, Option.map_some, List.length_cons, List.length_nil, vcM, List.getElem?_toArray, List.getElem?_cons_zero, List.getElem?_cons_succ])
        (refine W_at c21_ok ?_; refine ⟨_, rfl, ?_⟩; simp (disch := first | omega | assumption | rfl | (simp only [vcS] <;> omega) | fail) only [↓vcL1, ptS2_eq, ↓vcA, vcB, ↓vcD, vcE, ↓reduceIte, Nat.reduceEqDiff, Nat.reduceAdd, Nat.reduceMul, Nat.reduceLeDiff, Int.reduceLE, Int.reduceLT, Int.reduceEq, Int.reduceToNat, Int.reduceAdd, Int.reduceSub, Int.reduceMul, Int.reduceNeg, reduceCtorEq, Option.bind_some, Option.map_some, List.length_cons, List.length_nil, vcM, List.getElem?_toArray, List.getElem?_cons_zero, List.getElem?_cons_succ, hT2, hT22, c22, c22', c2])
        refine callV_ret (copy_ok wq _ _ hcut (by rw [List.length_drop, List.length_take]; omega)) ?_
        rintro d w3 hN
        have hdc : d.cells = #[d] := by obtain ⟨q, c, e, _⟩ := hN.own.rd.is; rw [e]; rfl
        simp (disch := first | omega | assumption | rfl | (simp only [vcS] <;> omega) | fail) only [↓vcL2, ptS1_eq, ↓vcA, vcB, ↓vcD, vcE, ↓reduceIte, Nat.reduceEqDiff, Nat.reduceAdd, Nat.reduceMul, Nat.reduceLeDiff, Int.reduceLE, Int.reduceLT, Int.reduceEq, Int.reduceToNat, Int.reduceAdd, Int.reduceSub, Int.reduceMul, Int.reduceNeg, reduceCtorEq, Option.bind_some, Option.map_some, List.length_cons, List.length_nil, vcM, List.getElem?_toArray, List.getElem?_cons_zero, List.getElem?_cons_succ, hdc]
        (refine W_at c21_ok ?_; refine ⟨_, rfl, ?_⟩; simp (disch := first | omega | assumption | rfl | (simp only [vcS] <;> omega) | fail) only [↓ptV_l, ↓vcA, vcB, ↓vcD, vcE, ↓reduceIte, Nat.reduceEqDiff, Nat.reduceAdd, Nat.reduceMul, Nat.reduceLeDiff, Int.reduceLE, Int.reduceLT, Int.reduceEq, Int.reduceToNat, Int.reduceAdd, Int.reduceSub, Int.reduceMul, Int.reduceNeg, reduceCtorEq, Option.bind_some, Option.map_some, List.length_cons, List.length_nil, vcM, List.getElem?_toArray, List.getElem?_cons_zero, List.getElem?_cons_succ, Ret_returned])
        exact ⟨_, by rw [hk2], by rw [hk2]; exact PartsAt.lit1 hN.own.rd, ((hE.ext hEq).ext hN.ext).alloc _⟩
      · generalize s[22]'(by omega) = z at hcq h135 d1
        simp (disch := first | omega | assumption | rfl | (simp only [vcS] <;> omega) | fail) only [↓vcL2, ptS1_eq, ↓vcA, vcB, ↓vcD, vcE, ↓reduceIte, Nat.reduceEqDiff, Nat.reduceAdd, Nat.reduceMul, Nat.reduceLeDiff, Int.reduceLE, Int.reduceLT, Int.reduceEq, Int.reduceToNat, Int.reduceAdd, Int.reduceSub, Int.reduceMul, Int.reduceNeg, reduceCtorEq, Option.bind_some, Option.map_some, List.length_cons, List.length_nil, vcM, List.getElem?_toArray, List.getElem?_cons_zero, List.getElem?_cons_succ, i22, hT22, hcq, h135, Nat.mul_one]
        (refine W_at c21_ok ?_; refine ⟨_, rfl, ?_⟩; simp (disch := first | omega | assumption | rfl | (simp only [vcS] <;> omega) | fail) only [↓ptV_l, ↓vcA, vcB, ↓vcD, vcE, ↓reduceIte, Nat.reduceEqDiff, Nat.reduceAdd, Nat.reduceMul, Nat.reduceLeDiff, Int.reduceLE, Int.reduceLT, Int.reduceEq, Int.reduceToNat, Int.reduceAdd, Int.reduceSub, Int.reduceMul, Int.reduceNeg, reduceCtorEq, Option.bind_some, Option.map_some, List.length_cons, List.length_nil, vcM, List.getElem?_toArray, List.getElem?_cons_zero, List.getElem?_cons_succ])
        exact no (fun h => h135 (d1.1 h.2.2)) 23 _ wq h23'.symm hEq
  · have h23' : ¬ ((s.length : Nat) : Int) = 23 := by omega
    (refine W_at c21_ok ?_; refine ⟨_, rfl, ?_⟩; simp (disch := first | omega | assumption | rfl | (simp only [vcS] <;> omega) | fail) only [↓ptV_l, ↓vcA, vcB, ↓vcD, vcE, ↓reduceIte, Nat.reduceEqDiff, Nat.reduceAdd, Nat.reduceMul, Nat.reduceLeDiff, Int.reduceLE, Int.reduceLT, Int.reduceEq, Int.reduceToNat, Int.reduceAdd, Int.reduceSub, Int.reduceMul, Int.reduceNeg, reduceCtorEq, Option.bind_some, Option.map_some, List.length_cons, List.length_nil, vcM, List.getElem?_toArray, List.getElem?_cons_zero, List.getElem?_cons_succ, h23'])
    (refine W_at c21_ok ?_; refine ⟨_, rfl, ?_⟩; simp (disch := first | omega | assumption | rfl | (simp only [vcS] <;> omega) | fail) only [↓ptV_l, ↓vcA, vcB, ↓vcD, vcE, ↓reduceIte, Nat.reduceEqDiff, Nat.reduceAdd, Nat.reduceMul, Nat.reduceLeDiff, Int.reduceLE, Int.reduceLT, Int.reduceEq, Int.reduceToNat, Int.reduceAdd, Int.reduceSub, Int.reduceMul, Int.reduceNeg, reduceCtorEq, Option.bind_some, Option.map_some, List.length_cons, List.length_nil, vcM, List.getElem?_toArray, List.getElem?_cons_zero, List.getElem?_cons_succ])
    exact no (fun h => h23 h.1) _ _ w1 rfl (Keep.refl _ w1)
set_option maxHeartbeats 6400000 in
theorem rkind_ok (w : World) (x : Value) (s : List Int) (hx : Rd w x s) (hb : byt s) (hl : s.length ≤ 1000000) :
    Calls Try.prog 21 #[x] w (Ret fun u w' => RKindTo w w' s u) := by
  refine calls_of_cfg c21_ok (Nat.le_of_ble_eq_true rfl) ?_
  simp only [argE_nil, argE_cons, Nat.reduceAdd, Nat.zero_add]
  have hlen := hx.len
  have hk := kindG_eq s
  have hbt : betF s [118, 169, 20] [136, 172] 20 = if s.length = 25 ∧ preB s [118, 169, 20] = true ∧ s.drop 23 = [136, 172] then some ((s.take 23).drop 3) else none := betG s [118, 169, 20] [136, 172] 20
  have no : ¬ (s.length = 25 ∧ preB s [118, 169, 20] = true ∧ s.drop 23 = [136, 172]) → ∀ (n : Int) (tl : Env) (wz : World), n = (s.length : Nat) → Ext w wz → W Try.prog (Ret fun u w' => RKindTo w w' s u) 21 42 ((0, x) :: (4, .int .i64 n) :: tl) wz := fun hn n tl wz hnn hz => by
    subst hnn
    rw [if_neg hn] at hbt
    exact rk_sh (hx.ext hz) hb hl hz (by rw [hk, hbt]) tl
  (refine W_at c21_ok ?_; refine ⟨_, rfl, ?_⟩; simp (disch := first | omega | assumption | rfl | (simp only [vcS] <;> omega) | fail) only [↓ptV_l, ↓vcA, vcB, ↓vcD, vcE, ↓reduceIte, Nat.reduceEqDiff, Nat.reduceAdd, Nat.reduceMul, Nat.reduceLeDiff, Int.reduceLE, Int.reduceLT, Int.reduceEq, Int.reduceToNat, Int.reduceAdd, Int.reduceSub, Int.reduceMul, Int.reduceNeg, reduceCtorEq, Option.bind_some, Option.map_some, List.length_cons, List.length_nil, vcM, List.getElem?_toArray, List.getElem?_cons_zero, List.getElem?_cons_succ])
  (refine W_at c21_ok ?_; refine ⟨_, rfl, ?_⟩; simp (disch := first | omega | assumption | rfl | (simp only [vcS] <;> omega) | fail) only [↓ptV_l, ↓vcA, vcB, ↓vcD, vcE, ↓reduceIte, Nat.reduceEqDiff, Nat.reduceAdd, Nat.reduceMul, Nat.reduceLeDiff, Int.reduceLE, Int.reduceLT, Int.reduceEq, Int.reduceToNat, Int.reduceAdd, Int.reduceSub, Int.reduceMul, Int.reduceNeg, reduceCtorEq, Option.bind_some, Option.map_some, List.length_cons, List.length_nil, vcM, List.getElem?_toArray, List.getElem?_cons_zero, List.getElem?_cons_succ, hlen])
  by_cases h25 : s.length = 25
  · have h25' : ((s.length : Nat) : Int) = 25 := by omega
    have lit : Rd (w.alloc (.cells (bv [118, 169, 20]).toArray 5)) (.slice (some ⟨w.heap.size, 0, none⟩) 3 3) [118, 169, 20] := (own_lit1 (w := w) (bs := [118, 169, 20]) (by show 3 ≤ 9223372036854775807; decide)).rd
    have hE2 : Ext w (w.alloc (.cells (bv [118, 169, 20]).toArray 5)) := (Keep.refl _ w).alloc _
    obtain ⟨b, o, c, e, _⟩ := hx.at (i := 23) (by omega)
    have hcap : s.length ≤ c := by obtain ⟨q, c', e', h⟩ := hx.eq; rw [e] at e'; injection e' with _ _ e3; omega
    subst e
    have i23 : (23 : Int) < (s.length : Nat) := by omega
    have i24 : (24 : Int) < (s.length : Nat) := by omega
    have hT23 : (23 : Int).toNat = 23 := rfl
    have hT24 : (24 : Int).toNat = 24 := rfl
    (refine W_at c21_ok ?_; refine ⟨_, rfl, ?_⟩; simp (disch := first | omega | assumption | rfl | (simp only [vcS] <;> omega) | fail) only [↓vcL1, ptS2_eq, ↓vcA, vcB, ↓vcD, vcE, ↓reduceIte, Nat.reduceEqDiff, Nat.reduceAdd, Nat.reduceMul, Nat.reduceLeDiff, Int.reduceLE, Int.reduceLT, Int.reduceEq, Int.reduceToNat, Int.reduceAdd, Int.reduceSub, Int.reduceMul, Int.reduceNeg, reduceCtorEq, Option.bind_some, Option.map_some, List.length_cons, List.length_nil, vcM, List.getElem?_toArray, List.getElem?_cons_zero, List.getElem?_cons_succ, h25'])
    refine callV_ret (rbegins_ok _ _ _ s [118, 169, 20] (hx.ext hE2) lit hb (by intro z hz; simp at hz; omega)) ?_
    rintro _ wq ⟨rfl, hw⟩
    have hEq : Ext w wq := by rw [hw]; exact hE2
    clear hw lit
    have hxq := hx.ext hEq
    obtain ⟨b', o', c', e, hcq⟩ := hxq.at (i := 23) (by omega)
    injection e with e4 _ e5
    cases e4; subst e5
    obtain ⟨b', o', c', e, hcr⟩ := hxq.at (i := 24) (by omega)
    injection e with e4 _ e5
    cases e4; subst e5
    cases hp : preB s [118, 169, 20] with
    | false =>
      simp (disch := first | omega | assumption | rfl | (simp only [vcS] <;> omega) | fail) only [↓vcL2, ptS1_eq, ↓vcA, vcB, ↓vcD, vcE, ↓reduceIte, Nat.reduceEqDiff, Nat.reduceAdd, Nat.reduceMul, Nat.reduceLeDiff, Int.reduceLE, Int.reduceLT, Int.reduceEq, Int.reduceToNat, Int.reduceAdd, Int.reduceSub, Int.reduceMul, Int.reduceNeg, reduceCtorEq, Option.bind_some, Option.map_some, List.length_cons, List.length_nil, vcM, List.getElem?_toArray, List.getElem?_cons_zero, List.getElem?_cons_succ]
      (refine W_at c21_ok ?_; refine ⟨_, rfl, ?_⟩; simp (disch := first | omega | assumption | rfl | (simp only [vcS] <;> omega) | fail) only [↓ptV_l, ↓vcA, vcB, ↓vcD, vcE, ↓reduceIte, Nat.reduceEqDiff, Nat.reduceAdd, Nat.reduceMul, Nat.reduceLeDiff, Int.reduceLE, Int.reduceLT, Int.reduceEq, Int.reduceToNat, Int.reduceAdd, Int.reduceSub, Int.reduceMul, Int.reduceNeg, reduceCtorEq, Option.bind_some, Option.map_some, List.length_cons, List.length_nil, vcM, List.getElem?_toArray, List.getElem?_cons_zero, List.getElem?_cons_succ])
      exact no (fun h => by rw [hp] at h; cases h.2.1) 25 _ wq h25'.symm hEq
    | true =>
      have d1 := drop_two (s := s) (i := 23) (a := 136) (b := 172) (by omega)
      by_cases h136 : s[23]'(by omega) = 136
      · by_cases h172 : s[24]'(by omega) = 172
        · rw [h136] at hcq
          rw [h172] at hcr
          have hk2 : kindG s = (1, [(s.take 23).drop 3]) := by
            rw [if_pos ⟨h25, hp, d1.2 ⟨h136, h172⟩⟩] at hbt
            rw [hk, hbt]
          have hcut := hxq.cut (l := 3) (j := 23) (by omega) (by omega)
          have hT3 : (3 : Int).toNat = 3 := rfl
          have c23 : (23 : Int) ≤ (c : Nat) := by omega
          have c23' : 0 ≤ (23 : Int) ∧ (23 : Int) ≤ (c : Nat) := by omega
          have c3 : 0 ≤ (3 : Int) ∧ (3 : Int) ≤ 23 := by omega
          simp (disch := first | omega | assumption | rfl | (simp only [vcS] <;> omega) | fail) only [↓vcL2, ptS1_eq, ↓vcA, vcB, ↓vcD, vcE, ↓reduceIte, Nat.reduceEqDiff, Nat.reduceAdd, Nat.reduceMul, Nat.reduceLeDiff, Int.reduceLE, Int.reduceLT, Int.reduceEq, Int.reduceToNat, Int.reduceAdd, Int.reduceSub, Int.reduceMul, Int.reduceNeg, reduceCtorEq, Option.bind_some, Option.map_some, List.length_cons, List.length_nil, vcM, List.getElem?_toArray, List.getElem?_cons_zero, List.getElem?_cons_succ, i23, i24, hT23, hT24, hcq, hcr, Nat.mul_one]
          (refine W_at c21_ok ?_; refine ⟨_, rfl, ?_⟩; simp (disch := first | omega | assumption | rfl | (simp only [vcS] <;> omega) | fail) only [↓ptV_l, ↓vcA, vcB, ↓vcD, vcE, ↓reduceIte, Nat.reduceEqDiff, Nat.reduceAdd, Nat.reduceMul, Nat.reduceLeDiff, Int.reduceLE, Int.reduceLT, Int.reduceEq, Int.reduceToNat, Int.reduceAdd, Int.reduceSub, Int.reduceMul, Int.reduceNeg, reduceCtorEq, Option.bind_some, Option.map_some, List.length_cons, List.length_nil, vcM, List.getElem?_toArray, List.getElem?_cons_zero, List.getElem?_cons_succ])
          (refine W_at c21_ok ?_; refine ⟨_, rfl, ?_⟩; simp (disch := first | omega | assumption | rfl | (simp only [vcS] <;> omega) | fail) only [↓vcL1, ptS2_eq, ↓vcA, vcB, ↓vcD, vcE, ↓reduceIte, Nat.reduceEqDiff, Nat.reduceAdd, Nat.reduceMul, Nat.reduceLeDiff, Int.reduceLE, Int.reduceLT, Int.reduceEq, Int.reduceToNat, Int.reduceAdd, Int.reduceSub, Int.reduceMul, Int.reduceNeg, reduceCtorEq, Option.bind_some, Option.map_some, List.length_cons, List.length_nil, vcM, List.getElem?_toArray, List.getElem?_cons_zero, List.getElem?_cons_succ, hT3, hT23, c23, c23', c3])
          refine callV_ret (copy_ok wq _ _ hcut (by rw [List.length_drop, List.length_take]; omega)) ?_
          rintro d w3 hN
          have hdc : d.cells = #[d] := by obtain ⟨q, c, e, _⟩ := hN.own.rd.is; rw [e]; rfl
          simp (disch := first | omega | assumption | rfl | (simp only [vcS] <;> omega) | fail) only [↓vcL2, ptS1_eq, ↓vcA, vcB, ↓vcD, vcE, ↓reduceIte, Nat.reduceEqDiff, Nat.reduceAdd, Nat.reduceMul, Nat.reduceLeDiff, Int.reduceLE, Int.reduceLT, Int.reduceEq, Int.reduceToNat, Int.reduceAdd, Int.reduceSub, Int.reduceMul, Int.reduceNeg, reduceCtorEq, Option.bind_some, Option.map_some, List.length_cons, List.length_nil, vcM, List.getElem?_toArray, List.getElem?_cons_zero, List.getElem?_cons_succ, hdc]
          (refine W_at c21_ok ?_; refine ⟨_, rfl, ?_⟩; simp (disch := first | omega | assumption | rfl | (simp only [vcS] <;> omega) | fail) only [↓ptV_l, ↓vcA, vcB, ↓vcD, vcE, ↓reduceIte, Nat.reduceEqDiff, Nat.reduceAdd, Nat.reduceMul, Nat.reduceLeDiff, Int.reduceLE, Int.reduceLT, Int.reduceEq, Int.reduceToNat, Int.reduceAdd, Int.reduceSub, Int.reduceMul, Int.reduceNeg, reduceCtorEq, Option.bind_some, Option.map_some, List.length_cons, List.length_nil, vcM, List.getElem?_toArray, List.getElem?_cons_zero, List.getElem?_cons_succ, Ret_returned])
          exact ⟨_, by rw [hk2], by rw [hk2]; exact PartsAt.lit1 hN.own.rd, (hEq.ext hN.ext).alloc _⟩
        · rw [h136] at hcq
          generalize s[24]'(by omega) = z at hcr h172 d1
          simp (disch := first | omega | assumption | rfl | (simp only [vcS] <;> omega) | fail) only [↓vcL2, ptS1_eq, ↓vcA, vcB, ↓vcD, vcE, ↓reduceIte, Nat.reduceEqDiff, Nat.reduceAdd, Nat.reduceMul, Nat.reduceLeDiff, Int.reduceLE, Int.reduceLT, Int.reduceEq, Int.reduceToNat, Int.reduceAdd, Int.reduceSub, Int.reduceMul, Int.reduceNeg, reduceCtorEq, Option.bind_some, Option.map_some, List.length_cons, List.length_nil, vcM, List.getElem?_toArray, List.getElem?_cons_zero, List.getElem?_cons_succ, i23, i24, hT23, hT24, hcq, hcr, h172, Nat.mul_one]
          (refine W_at c21_ok ?_; refine ⟨_, rfl, ?_⟩; simp (disch := first | omega | assumption | rfl | (simp only [vcS] <;> omega) | fail) only [↓ptV_l, ↓vcA, vcB, ↓vcD, vcE, ↓reduceIte, Nat.reduceEqDiff, Nat.reduceAdd, Nat.reduceMul, Nat.reduceLeDiff, Int.reduceLE, Int.reduceLT, Int.reduceEq, Int.reduceToNat, Int.reduceAdd, Int.reduceSub, Int.reduceMul, Int.reduceNeg, reduceCtorEq, Option.bind_some, Option.map_some, List.length_cons, List.length_nil, vcM, List.getElem?_toArray, List.getElem?_cons_zero, List.getElem?_cons_succ])
          exact no (fun h => h172 (d1.1 h.2.2).2) 25 _ wq h25'.symm hEq
      · generalize s[23]'(by omega) = z at hcq h136 d1
        simp (disch := first | omega | assumption | rfl | (simp only [vcS] <;> omega) | fail) only [↓vcL2, ptS1_eq, ↓vcA, vcB, ↓vcD, vcE, ↓reduceIte, Nat.reduceEqDiff, Nat.reduceAdd, Nat.reduceMul, Nat.reduceLeDiff, Int.reduceLE, Int.reduceLT, Int.reduceEq, Int.reduceToNat, Int.reduceAdd, Int.reduceSub, Int.reduceMul, Int.reduceNeg, reduceCtorEq, Option.bind_some, Option.map_some, List.length_cons, List.length_nil, vcM, List.getElem?_toArray, List.getElem?_cons_zero, List.getElem?_cons_succ, i23, hT23, hcq, h136, Nat.mul_one]
        (refine W_at c21_ok ?_; refine ⟨_, rfl, ?_⟩; simp (disch := first | omega | assumption | rfl | (simp only [vcS] <;> omega) | fail) only [↓ptV_l, ↓vcA, vcB, ↓vcD, vcE, ↓reduceIte, Nat.reduceEqDiff, Nat.reduceAdd, Nat.reduceMul, Nat.reduceLeDiff, Int.reduceLE, Int.reduceLT, Int.reduceEq, Int.reduceToNat, Int.reduceAdd, Int.reduceSub, Int.reduceMul, Int.reduceNeg, reduceCtorEq, Option.bind_some, Option.map_some, List.length_cons, List.length_nil, vcM, List.getElem?_toArray, List.getElem?_cons_zero, List.getElem?_cons_succ])
        exact no (fun h => h136 (d1.1 h.2.2).1) 25 _ wq h25'.symm hEq
  · have h25' : ¬ ((s.length : Nat) : Int) = 25 := by omega
    (refine W_at c21_ok ?_; refine ⟨_, rfl, ?_⟩; simp (disch := first | omega | assumption | rfl | (simp only [vcS] <;> omega) | fail) only [↓ptV_l, ↓vcA, vcB, ↓vcD, vcE, ↓reduceIte, Nat.reduceEqDiff, Nat.reduceAdd, Nat.reduceMul, Nat.reduceLeDiff, Int.reduceLE, Int.reduceLT, Int.reduceEq, Int.reduceToNat, Int.reduceAdd, Int.reduceSub, Int.reduceMul, Int.reduceNeg, reduceCtorEq, Option.bind_some, Option.map_some, List.length_cons, List.length_nil, vcM, List.getElem?_toArray, List.getElem?_cons_zero, List.getElem?_cons_succ, h25'])
    (refine W_at c21_ok ?_; refine ⟨_, rfl, ?_⟩; simp (disch := first | omega | assumption | rfl | (simp only [vcS] <;> omega) | fail) only [↓ptV_l, ↓vcA, vcB, ↓vcD, vcE, ↓reduceIte, Nat.reduceEqDiff, Nat.reduceAdd, Nat.reduceMul, Nat.reduceLeDiff, Int.reduceLE, Int.reduceLT, Int.reduceEq, Int.reduceToNat, Int.reduceAdd, Int.reduceSub, Int.reduceMul, Int.reduceNeg, reduceCtorEq, Option.bind_some, Option.map_some, List.length_cons, List.length_nil, vcM, List.getElem?_toArray, List.getElem?_cons_zero, List.getElem?_cons_succ])
    exact no (fun h => h25 h.1) _ _ w rfl (Keep.refl _ w)
end Go.Proofs
namespace Go.Proofs
open Go.Vc
set_option maxRecDepth 10000

theorem kindG_all {s : List Int} (hb : byt s) (hl : s.length ≤ 1000000) : (kindG s).2.length ≤ 17 ∧ ∀ p ∈ (kindG s).2, byt p ∧ p.length ≤ 1000000 := by
  have one : ∀ (k : Int) (p : List Int), byt p → p.length ≤ 1000000 → ((k, [p]) : Int × List (List Int)).2.length ≤ 17 ∧ ∀ q ∈ ((k, [p]) : Int × List (List Int)).2, byt q ∧ q.length ≤ 1000000 := fun k p h1 h2 =>
    ⟨by simp, fun q hq => by simp at hq; subst hq; exact ⟨h1, h2⟩⟩
  have sub : ∀ (a b : Nat), byt ((s.take a).drop b) ∧ ((s.take a).drop b).length ≤ 1000000 := fun a b => ⟨byt_drop (byt_take hb a) b, by rw [List.length_drop, List.length_take]; omega⟩
  rw [kindG_eq]
  cases h1 : betF s [118, 169, 20] [136, 172] 20 with
  | some h =>
    rw [betG] at h1
    split at h1
    · cases h1; exact one _ _ (sub _ _).1 (sub _ _).2
    · cases h1
  | none =>
  simp only [kindS]
  cases h2 : betF s [169, 20] [135] 20 with
  | some h =>
    rw [betG] at h2
    split at h2
    · cases h2; exact one _ _ (sub _ _).1 (sub _ _).2
    · cases h2
  | none =>
  simp only [kindP]
  cases h3 : progF s with
  | some vp =>
    obtain ⟨v, p⟩ := vp
    have hp : byt p ∧ p.length ≤ 1000000 ∧ 0 ≤ v ∧ v ≤ 16 := by
      unfold progF at h3
      split at h3
      · split at h3
        · rename_i a b t hc
          simp only [Option.some.injEq, Prod.mk.injEq] at h3
          obtain ⟨rfl, rfl⟩ := h3
          have := smallF_r a
          simp only [List.length_cons] at hl
          exact ⟨fun z hz => hb z (by simp [hz]), by omega, hc.2.2.1, this.2⟩
        · cases h3
      · cases h3
    simp only
    split
    · exact one _ _ hp.1 hp.2.1
    · split
      · exact one _ _ hp.1 hp.2.1
      · refine ⟨by simp, fun q hq => ?_⟩
        simp only [List.mem_cons, List.not_mem_nil, or_false] at hq
        rcases hq with rfl | rfl
        · exact ⟨fun z hz => by simp at hz; subst hz; omega, by simp⟩
        · exact ⟨hp.1, hp.2.1⟩
  | none =>
  simp only [kindM]
  cases h4 : multiF s with
  | some ps =>
    obtain ⟨m, ks, hf, rfl⟩ := mul_form h4
    have h5 := hf.n16
    have h6 := hf.mn
    have h7 := hf.m1
    refine ⟨by simp; omega, fun q hq => ?_⟩
    simp only [List.mem_cons] at hq
    rcases hq with rfl | hq
    · exact ⟨fun z hz => by simp at hz; subst hz; omega, by simp⟩
    · refine ⟨fun z hz => hb z ?_, by rw [hf.len q hq]; omega⟩
      rw [hf.is]
      have : z ∈ ks.flatMap (33 :: ·) := List.mem_flatMap.2 ⟨q, hq, List.mem_cons_of_mem _ hz⟩
      simp only [pmB, List.cons_append, List.mem_cons, List.mem_append]
      exact .inr (.inl this)
  | none =>
    simp only
    split
    · exact one _ _ (byt_drop hb 1) (by rw [List.length_drop]; omega)
    · exact ⟨by simp, fun q hq => (by cases hq)⟩
/-- 'append' of two more. -/
theorem PtsB.app2 {m : Nat} {w : World} {v d a : Value} {ts : List PE} {K : Value → World → Prop} (h : PtsB m w v ts) (hm : m ≤ w.heap.size) (hd : d.oneCell' = true) (ha : a.oneCell' = true) (hlen : ts.length ≤ 1000000)
    (hk : ∀ v' w', w'.ownsRow m 22 1 v' (ts.length + 2) (ts.map (·.2) ++ [d, a]) → Keep (blk v) w w' → K v' w') :
    appV 22 1 24 [.slice none 0 0] v (.slice (some ⟨w.heap.size, 0, none⟩) 2 2) (w.alloc (.cells [d, a].toArray 22)) K := by
  have hml : maxLen = 9223372036854775807 := rfl
  have hE : Ext w (w.alloc (.cells [d, a].toArray 22)) := (Keep.refl _ w).alloc _
  have hr : rdS (w.alloc (.cells [d, a].toArray 22)) 1 (.slice (some ⟨w.heap.size, 0, none⟩) 2 2) = some [d, a].toArray := rdS_own (own_lit (w := w) (el := 22) (size := 1) (n := 2) (cs := [d, a]) rfl (by decide))
  refine appV_own3 (ownsRow_keep h.row hE fun _ _ h => h) rfl hr (by intro z hz; simp at hz; rcases hz with rfl | rfl <;> assumption) (by omega) (by omega) rfl (by rw [size_alloc]; omega) (by omega) fun v' w' ho hg _ => hk v' w' ho ?_
  exact Keep.grown (hE.mono fun _ h => h.elim) hg fun k _ h => h
end Go.Proofs
namespace Go.Proofs
open Go.Vc
set_option maxRecDepth 10000

theorem in_rd2 {wz : World} {g0 : Nat} {l : List Int} (h : Own1 wz (.slice (some ⟨g0, 0, none⟩) (l.length + 9) (l.length + 9)) (spareF l)) : Rd wz (.slice (some ⟨g0, 0, none⟩) l.length (l.length + 9)) l := by
  have h1 := cut_hi h.rd (j := l.length) (by rw [spareF_len]; omega)
  have h2 : (spareF l).take l.length = l := by rw [spareF, List.take_left' rfl]
  rw [h2] at h1
  exact h1
set_option maxHeartbeats 6400000 in
/-- The end: no two share memory. -/
theorem kinds_end {w w1 w5 w7 : World} {l : List Int} {v d : Value} {ts : List PE} {pd : List Int} {g0 : Nat} (hE1 : Ext w w1) (hE5 : Ext w1 w5) (hE7 : Ext w5 w7) (hP : PtsB w1.heap.size w7 v ts) (hP5 : ∀ t ∈ ts, ∀ g, blk t.2 g → g < w5.heap.size)
    (hO : OwnB w7 d pd) (hd : ∀ g, blk d g → w5.heap.size ≤ g) (hA : Own1 w7 (.slice (some ⟨g0, 0, none⟩) (l.length + 9) (l.length + 9)) (spareF l)) (hg0 : w.heap.size ≤ g0) (hg1 : g0 < w1.heap.size)
    (hl : l.length ≤ 1000) (hpd : pd.length ≤ 1000000) (hts : ts.length ≤ 17) (htl : ∀ t ∈ ts, t.1.length ≤ 1000000) (R : Env) :
    W Try.prog (Ret fun u w' => u = .bool true ∧ Ext w w') 5 2 ((4, .slice (some ⟨g0, 0, none⟩) (l.length + 9) (l.length + 9)) :: (6, v) :: (10, d) :: R) w7 := by
  have hE07 := (hE1.ext hE5).ext hE7
  have s1 := hE1.size
  have s5 := hE5.size
  have s7 := hE7.size
  have hdc : d.cells = #[d] := by obtain ⟨q, c, e, _⟩ := hO.rd.is; rw [e]; rfl
  have hac : (Value.slice (some ⟨g0, 0, none⟩) (l.length + 9) (l.length + 9)).cells = #[.slice (some ⟨g0, 0, none⟩) (l.length + 9) (l.length + 9)] := rfl
  have hasl : ∃ q c, v = .slice q ts.length c := by
    rcases hP.row.2 with ⟨e, hn⟩ | ⟨g, cap, cur, e, _⟩
    · rw [hn]; exact ⟨_, _, e⟩
    · exact ⟨_, _, e⟩
  (refine W_at c5_ok ?_; refine ⟨_, rfl, ?_⟩; simp (disch := first | omega | assumption | rfl | (simp only [vcS] <;> omega) | fail) only [↓vcL1, ptS2_eq, ↓vcA, vcB, ↓vcD, vcE, ↓reduceIte, Nat.reduceEqDiff, Nat.reduceAdd, Nat.reduceMul, Nat.reduceLeDiff, Int.reduceLE, Int.reduceLT, Int.reduceEq, Int.reduceToNat, Int.reduceAdd, Int.reduceSub, Int.reduceMul, Int.reduceNeg, reduceCtorEq, Option.bind_some, Option.map_some, List.length_cons, List.length_nil, vcM, List.getElem?_toArray, List.getElem?_cons_zero, List.getElem?_cons_succ, hdc, hac])
  first | (simp only [List.append_nil, List.cons_append, List.nil_append]) | skip
  refine PtsB.app2 hP (by omega) hO.rd.one rfl (by omega) fun v' w9 h1 h2 => ?_
  have hAB := hA.b
  have hnt : ∀ g, blk v g → ∃ c, w7.heap[g]? = some (.cells c 22 (0, 0)) := fun g hg => row_type hP.row hg
  have nb : ∀ {u : Value} {b : List Int}, OwnB w7 u b → ∀ g, blk u g → ¬ blk v g := fun hu g hg hv => by
    obtain ⟨c1, e1⟩ := hu.type hg
    obtain ⟨c2, e2⟩ := hnt g hv
    rw [e1] at e2; cases e2
  have o9 : ∀ {u : Value} {b : List Int}, OwnB w7 u b → OwnB w9 u b := fun hu => hu.keep h2 fun g hg hv => nb hu g hg hv
  have hdist : Dist (ts.map (·.2) ++ [d, .slice (some ⟨g0, 0, none⟩) (l.length + 9) (l.length + 9)]) := by
    have e : ts.map (·.2) ++ [d, .slice (some ⟨g0, 0, none⟩) (l.length + 9) (l.length + 9)] = (ts.map (·.2) ++ [d]) ++ [.slice (some ⟨g0, 0, none⟩) (l.length + 9) (l.length + 9)] := by simp
    rw [e]
    have inT : ∀ (j : Nat) (hj : j < (ts.map (·.2)).length) g, blk (ts.map (·.2))[j] g → w1.heap.size ≤ g ∧ g < w5.heap.size := fun j hj g hg => by
      have hj' : j < ts.length := by simpa using hj
      rw [List.getElem_map] at hg
      exact ⟨(hP.own _ (List.getElem_mem hj')).2 g hg, hP5 _ (List.getElem_mem hj') g hg⟩
    refine (hP.dist.snoc fun j hj g hg hdg => ?_).snoc fun j hj g hg hag => ?_
    · have := inT j hj g hg
      have := hd g hdg
      omega
    · have e0 : g0 = g := Option.some.inj hag
      rw [List.getElem_append] at hg
      split at hg
      · rename_i hj2
        have := inT j hj2 g hg
        omega
      · rename_i hj2
        have hg' : blk d g := by
          have : j - (ts.map (·.2)).length = 0 := by simp only [List.length_append, List.length_cons, List.length_nil] at hj; omega
          simpa [this] using hg
        have := hd g hg'
        omega
  have hrow : ∃ q c, v' = .slice q (ts.length + 2) c ∧ ∀ x, q = some x → blk v' x.block := by
    rcases h1.2 with ⟨e, hn⟩ | ⟨g, cap, cur, e, _⟩
    · omega
    · exact ⟨_, _, e, fun x hx => by cases hx; rw [e]; rfl⟩
  obtain ⟨q, c, e, hq⟩ := hrow
  have hrd := rdS_own h1
  have hinB : ∀ g, inL (ts.map (·.2) ++ [d, .slice (some ⟨g0, 0, none⟩) (l.length + 9) (l.length + 9)]) g → (∃ cc, w9.heap[g]? = some (.cells cc 5 (0, 0))) ∧ w.heap.size ≤ g := by
    rintro g ⟨j, hj, hb⟩
    have hmem := List.getElem_mem hj
    generalize (ts.map (·.2) ++ [d, .slice (some ⟨g0, 0, none⟩) (l.length + 9) (l.length + 9)])[j] = u at hb hmem
    rcases List.mem_append.1 hmem with hm | hm
    · obtain ⟨t, ht, rfl⟩ := List.mem_map.1 hm
      have := (hP.own t ht).2 g hb
      exact ⟨(o9 (hP.own t ht).1).type hb, by omega⟩
    · simp only [List.mem_cons, List.not_mem_nil, or_false] at hm
      rcases hm with rfl | rfl
      · have := hd g hb
        exact ⟨(o9 hO).type hb, by omega⟩
      · have e0 : g0 = g := Option.some.inj hb
        exact ⟨(o9 hAB).type hb, by omega⟩
  have hqn : ∀ x, q = some x → ¬ inL (ts.map (·.2) ++ [d, .slice (some ⟨g0, 0, none⟩) (l.length + 9) (l.length + 9)]) x.block := fun x hx hin => by
    obtain ⟨⟨c1, e1⟩, _⟩ := hinB _ hin
    obtain ⟨c2, e2⟩ := row_type h1 (hq x hx)
    rw [e1] at e2; cases e2
  have hOM : OwnM w9 (ts.map (·.2) ++ [d, .slice (some ⟨g0, 0, none⟩) (l.length + 9) (l.length + 9)]) (fun j => (ts.map (·.1) ++ [pd, spareF l]).getD j []) := by
    refine ⟨fun j hj => ?_, fun j => ?_⟩
    · by_cases hj1 : j < ts.length
      · have e1 : (ts.map (·.2) ++ [d, .slice (some ⟨g0, 0, none⟩) (l.length + 9) (l.length + 9)])[j] = ts[j].2 := by rw [List.getElem_append_left (by simpa using hj1), List.getElem_map]
        have e2 : (ts.map (·.1) ++ [pd, spareF l]).getD j [] = ts[j].1 := by
          rw [List.getD_eq_getElem?_getD, List.getElem?_append_left (by simpa using hj1)]; simp [hj1]
        rw [e1]
        simp only [e2]
        exact o9 (hP.own _ (List.getElem_mem hj1)).1
      · simp only [List.length_append, List.length_map, List.length_cons, List.length_nil] at hj
        have hjj : j = ts.length ∨ j = ts.length + 1 := by omega
        rcases hjj with rfl | rfl
        · have e1 : (ts.map (·.2) ++ [d, .slice (some ⟨g0, 0, none⟩) (l.length + 9) (l.length + 9)])[ts.length]'(by simp) = d := by rw [List.getElem_append_right (by simp)]; simp
          have e2 : (ts.map (·.1) ++ [pd, spareF l]).getD ts.length [] = pd := by
            rw [List.getD_eq_getElem?_getD, List.getElem?_append_right (by simp)]; simp
          rw [e1]
          simp only [e2]
          exact o9 hO
        · have e1 : (ts.map (·.2) ++ [d, .slice (some ⟨g0, 0, none⟩) (l.length + 9) (l.length + 9)])[ts.length + 1]'(by simp) = .slice (some ⟨g0, 0, none⟩) (l.length + 9) (l.length + 9) := by rw [List.getElem_append_right (by simp)]; simp
          have e2 : (ts.map (·.1) ++ [pd, spareF l]).getD (ts.length + 1) [] = spareF l := by
            rw [List.getD_eq_getElem?_getD, List.getElem?_append_right (by simp)]; simp
          rw [e1]
          simp only [e2]
          exact o9 hAB
    · rw [List.getD_eq_getElem?_getD]
      cases hx : (ts.map (·.1) ++ [pd, spareF l])[j]? with
      | none => simp
      | some b =>
        have hm := List.mem_of_getElem? hx
        simp only [Option.getD_some]
        rcases List.mem_append.1 hm with hm | hm
        · obtain ⟨t, ht, rfl⟩ := List.mem_map.1 hm
          have := htl t ht
          omega
        · simp only [List.mem_cons, List.not_mem_nil, or_false] at hm
          rcases hm with rfl | rfl
          · omega
          · rw [spareF_len]; omega
  subst e
  simp (disch := first | omega | assumption | rfl | (simp only [vcS] <;> omega) | fail) only [↓vcL2, ptS1_eq, ↓vcA, vcB, ↓vcD, vcE, ↓reduceIte, Nat.reduceEqDiff, Nat.reduceAdd, Nat.reduceMul, Nat.reduceLeDiff, Int.reduceLE, Int.reduceLT, Int.reduceEq, Int.reduceToNat, Int.reduceAdd, Int.reduceSub, Int.reduceMul, Int.reduceNeg, reduceCtorEq, Option.bind_some, Option.map_some, List.length_cons, List.length_nil, vcM, List.getElem?_toArray, List.getElem?_cons_zero, List.getElem?_cons_succ]
  refine callV_ret (apart2_ok w9 q _ c _ _ hrd (by simp) (by omega) hqn hOM hdist) ?_
  rintro _ w10 ⟨rfl, hk10⟩
  first | (simp (disch := first | omega | assumption | rfl | (simp only [vcS] <;> omega) | fail) only [↓vcL1, ptS2_eq, ↓vcA, vcB, ↓vcD, vcE, ↓reduceIte, Nat.reduceEqDiff, Nat.reduceAdd, Nat.reduceMul, Nat.reduceLeDiff, Int.reduceLE, Int.reduceLT, Int.reduceEq, Int.reduceToNat, Int.reduceAdd, Int.reduceSub, Int.reduceMul, Int.reduceNeg, reduceCtorEq, Option.bind_some, Option.map_some, List.length_cons, List.length_nil, vcM, List.getElem?_toArray, List.getElem?_cons_zero, List.getElem?_cons_succ]) | (simp (disch := first | omega | assumption | rfl | (simp only [vcS] <;> omega) | fail) only [↓ptV_l, ↓vcA, vcB, ↓vcD, vcE, ↓reduceIte, Nat.reduceEqDiff, Nat.reduceAdd, Nat.reduceMul, Nat.reduceLeDiff, Int.reduceLE, Int.reduceLT, Int.reduceEq, Int.reduceToNat, Int.reduceAdd, Int.reduceSub, Int.reduceMul, Int.reduceNeg, reduceCtorEq, Option.bind_some, Option.map_some, List.length_cons, List.length_nil, vcM, List.getElem?_toArray, List.getElem?_cons_zero, List.getElem?_cons_succ]) | skip
  (refine W_at c5_ok ?_; refine ⟨_, rfl, ?_⟩; simp (disch := first | omega | assumption | rfl | (simp only [vcS] <;> omega) | fail) only [↓ptV_l, ↓vcA, vcB, ↓vcD, vcE, ↓reduceIte, Nat.reduceEqDiff, Nat.reduceAdd, Nat.reduceMul, Nat.reduceLeDiff, Int.reduceLE, Int.reduceLT, Int.reduceEq, Int.reduceToNat, Int.reduceAdd, Int.reduceSub, Int.reduceMul, Int.reduceNeg, reduceCtorEq, Option.bind_some, Option.map_some, List.length_cons, List.length_nil, vcM, List.getElem?_toArray, List.getElem?_cons_zero, List.getElem?_cons_succ, Ret_returned])
  have hk9 : Ext w w9 := hE07.trans h2 fun g hg hv => by
    have := own_block hP.row hv
    omega
  exact hk9.trans hk10 fun g hg hin => by
    have := (hinB g hin).2
    omega
end Go.Proofs
namespace Go.Proofs
open Go.Vc
set_option maxRecDepth 10000

set_option maxHeartbeats 6400000 in
theorem kinds_law (w : World) (x : Value) (bs : List Int) (hx : Rd w x bs) (hbb : byt bs) :
    Calls Try.prog 5 #[x] w (Ret fun u w' => u = .bool true ∧ Ext w w') := by
  refine calls_of_cfg c5_ok (Nat.le_of_ble_eq_true rfl) ?_
  simp only [argE_nil, argE_cons, Nat.reduceAdd, Nat.zero_add]
  (refine W_at c5_ok ?_; refine ⟨_, rfl, ?_⟩; simp (disch := first | omega | assumption | rfl | (simp only [vcS] <;> omega) | fail) only [↓ptV_l, ↓vcA, vcB, ↓vcD, vcE, ↓reduceIte, Nat.reduceEqDiff, Nat.reduceAdd, Nat.reduceMul, Nat.reduceLeDiff, Int.reduceLE, Int.reduceLT, Int.reduceEq, Int.reduceToNat, Int.reduceAdd, Int.reduceSub, Int.reduceMul, Int.reduceNeg, reduceCtorEq, Option.bind_some, Option.map_some, List.length_cons, List.length_nil, vcM, List.getElem?_toArray, List.getElem?_cons_zero, List.getElem?_cons_succ])
  (refine W_at c5_ok ?_; refine ⟨_, rfl, ?_⟩; simp (disch := first | omega | assumption | rfl | (simp only [vcS] <;> omega) | fail) only [↓ptV_l, ↓vcA, vcB, ↓vcD, vcE, ↓reduceIte, Nat.reduceEqDiff, Nat.reduceAdd, Nat.reduceMul, Nat.reduceLeDiff, Int.reduceLE, Int.reduceLT, Int.reduceEq, Int.reduceToNat, Int.reduceAdd, Int.reduceSub, Int.reduceMul, Int.reduceNeg, reduceCtorEq, Option.bind_some, Option.map_some, List.length_cons, List.length_nil, vcM, List.getElem?_toArray, List.getElem?_cons_zero, List.getElem?_cons_succ])
  refine callV_ret (awake_ok w) ?_
  rintro _ w0 ⟨rfl, hE0⟩
  simp (disch := first | omega | assumption | rfl | (simp only [vcS] <;> omega) | fail) only [↓ptV_l, ↓vcA, vcB, ↓vcD, vcE, ↓reduceIte, Nat.reduceEqDiff, Nat.reduceAdd, Nat.reduceMul, Nat.reduceLeDiff, Int.reduceLE, Int.reduceLT, Int.reduceEq, Int.reduceToNat, Int.reduceAdd, Int.reduceSub, Int.reduceMul, Int.reduceNeg, reduceCtorEq, Option.bind_some, Option.map_some, List.length_cons, List.length_nil, vcM, List.getElem?_toArray, List.getElem?_cons_zero, List.getElem?_cons_succ]
  (refine W_at c5_ok ?_; refine ⟨_, rfl, ?_⟩; simp (disch := first | omega | assumption | rfl | (simp only [vcS] <;> omega) | fail) only [↓ptV_l, ↓vcA, vcB, ↓vcD, vcE, ↓reduceIte, Nat.reduceEqDiff, Nat.reduceAdd, Nat.reduceMul, Nat.reduceLeDiff, Int.reduceLE, Int.reduceLT, Int.reduceEq, Int.reduceToNat, Int.reduceAdd, Int.reduceSub, Int.reduceMul, Int.reduceNeg, reduceCtorEq, Option.bind_some, Option.map_some, List.length_cons, List.length_nil, vcM, List.getElem?_toArray, List.getElem?_cons_zero, List.getElem?_cons_succ])
  (refine W_at c5_ok ?_; refine ⟨_, rfl, ?_⟩; simp (disch := first | omega | assumption | rfl | (simp only [vcS] <;> omega) | fail) only [↓ptV_l, ↓vcA, vcB, ↓vcD, vcE, ↓reduceIte, Nat.reduceEqDiff, Nat.reduceAdd, Nat.reduceMul, Nat.reduceLeDiff, Int.reduceLE, Int.reduceLT, Int.reduceEq, Int.reduceToNat, Int.reduceAdd, Int.reduceSub, Int.reduceMul, Int.reduceNeg, reduceCtorEq, Option.bind_some, Option.map_some, List.length_cons, List.length_nil, vcM, List.getElem?_toArray, List.getElem?_cons_zero, List.getElem?_cons_succ])
  refine callV_ret (short_ok w0 x bs 1000 (hx.ext hE0)) ?_
  rintro y wq ⟨hy0, hw⟩
  obtain rfl : w0 = wq := hw.symm
  have hy : ∀ wz, Ext w wz → Rd wz y (bs.take 1000) := fun wz hz => hy0 wz (hx.ext hz)
  have hn3 : (bs.take 1000).length ≤ 1000 := by rw [List.length_take]; omega
  have hbl : byt (bs.take 1000) := byt_take hbb 1000
  generalize bs.take 1000 = l at hy hn3 hbl
  clear hy0
  first | (simp (disch := first | omega | assumption | rfl | (simp only [vcS] <;> omega) | fail) only [↓ptV_l, ↓vcA, vcB, ↓vcD, vcE, ↓reduceIte, Nat.reduceEqDiff, Nat.reduceAdd, Nat.reduceMul, Nat.reduceLeDiff, Int.reduceLE, Int.reduceLT, Int.reduceEq, Int.reduceToNat, Int.reduceAdd, Int.reduceSub, Int.reduceMul, Int.reduceNeg, reduceCtorEq, Option.bind_some, Option.map_some, List.length_cons, List.length_nil, vcM, List.getElem?_toArray, List.getElem?_cons_zero, List.getElem?_cons_succ]) | skip
  (refine W_at c5_ok ?_; refine ⟨_, rfl, ?_⟩; simp (disch := first | omega | assumption | rfl | (simp only [vcS] <;> omega) | fail) only [↓ptV_l, ↓vcA, vcB, ↓vcD, vcE, ↓reduceIte, Nat.reduceEqDiff, Nat.reduceAdd, Nat.reduceMul, Nat.reduceLeDiff, Int.reduceLE, Int.reduceLT, Int.reduceEq, Int.reduceToNat, Int.reduceAdd, Int.reduceSub, Int.reduceMul, Int.reduceNeg, reduceCtorEq, Option.bind_some, Option.map_some, List.length_cons, List.length_nil, vcM, List.getElem?_toArray, List.getElem?_cons_zero, List.getElem?_cons_succ])
  refine callV_ret (spare_ok w0 y l (hy w0 hE0) hbl (by omega)) ?_
  rintro _ w1 ⟨g0, rfl, hA1, hE1, hg0⟩
  have hg0' : g0 < w1.heap.size := hA1.lt rfl
  have hs0 := hE0.size
  have hE01 := hE0.ext hE1
  simp (disch := first | omega | assumption | rfl | (simp only [vcS] <;> omega) | fail) only [↓ptV_l, ↓vcA, vcB, ↓vcD, vcE, ↓reduceIte, Nat.reduceEqDiff, Nat.reduceAdd, Nat.reduceMul, Nat.reduceLeDiff, Int.reduceLE, Int.reduceLT, Int.reduceEq, Int.reduceToNat, Int.reduceAdd, Int.reduceSub, Int.reduceMul, Int.reduceNeg, reduceCtorEq, Option.bind_some, Option.map_some, List.length_cons, List.length_nil, vcM, List.getElem?_toArray, List.getElem?_cons_zero, List.getElem?_cons_succ]
  (refine W_at c5_ok ?_; refine ⟨_, rfl, ?_⟩; simp (disch := first | omega | assumption | rfl | (simp only [vcS] <;> omega) | fail) only [↓ptV_l, ↓vcA, vcB, ↓vcD, vcE, ↓reduceIte, Nat.reduceEqDiff, Nat.reduceAdd, Nat.reduceMul, Nat.reduceLeDiff, Int.reduceLE, Int.reduceLT, Int.reduceEq, Int.reduceToNat, Int.reduceAdd, Int.reduceSub, Int.reduceMul, Int.reduceNeg, reduceCtorEq, Option.bind_some, Option.map_some, List.length_cons, List.length_nil, vcM, List.getElem?_toArray, List.getElem?_cons_zero, List.getElem?_cons_succ])
  refine callV_ret (kind2_ok w1 _ l (in_rd2 hA1) hbl (by omega)) ?_
  rintro _ w2 ⟨v, ts, rfl, hts, hP, hE2⟩
  have hall := kindG_all hbl (show l.length ≤ 1000000 by omega)
  simp (disch := first | omega | assumption | rfl | (simp only [vcS] <;> omega) | fail) only [↓ptV_l, ↓vcA, vcB, ↓vcD, vcE, ↓reduceIte, Nat.reduceEqDiff, Nat.reduceAdd, Nat.reduceMul, Nat.reduceLeDiff, Int.reduceLE, Int.reduceLT, Int.reduceEq, Int.reduceToNat, Int.reduceAdd, Int.reduceSub, Int.reduceMul, Int.reduceNeg, reduceCtorEq, Option.bind_some, Option.map_some, List.length_cons, List.length_nil, vcM, List.getElem?_toArray, List.getElem?_cons_zero, List.getElem?_cons_succ]
  (refine W_at c5_ok ?_; refine ⟨_, rfl, ?_⟩; simp (disch := first | omega | assumption | rfl | (simp only [vcS] <;> omega) | fail) only [↓ptV_l, ↓vcA, vcB, ↓vcD, vcE, ↓reduceIte, Nat.reduceEqDiff, Nat.reduceAdd, Nat.reduceMul, Nat.reduceLeDiff, Int.reduceLE, Int.reduceLT, Int.reduceEq, Int.reduceToNat, Int.reduceAdd, Int.reduceSub, Int.reduceMul, Int.reduceNeg, reduceCtorEq, Option.bind_some, Option.map_some, List.length_cons, List.length_nil, vcM, List.getElem?_toArray, List.getElem?_cons_zero, List.getElem?_cons_succ])
  refine callV_ret (rkind_ok w2 y l (hy w2 (hE01.ext hE2)) hbl (by omega)) ?_
  rintro _ w3 ⟨v2, rfl, hP2, hE3⟩
  have hE13 := hE2.ext hE3
  have hA3 := hA1.ext hE13
  have hpp : PartsAt w3 v (kindG l).2 := by
    have := (hP.ext hE3).parts
    rw [hts] at this
    exact this
  generalize (kindG l).2 = ps at hts hP2 hpp hall
  generalize (kindG l).1 = kk
  simp (disch := first | omega | assumption | rfl | (simp only [vcS] <;> omega) | fail) only [↓ptV_l, ↓vcA, vcB, ↓vcD, vcE, ↓reduceIte, Nat.reduceEqDiff, Nat.reduceAdd, Nat.reduceMul, Nat.reduceLeDiff, Int.reduceLE, Int.reduceLT, Int.reduceEq, Int.reduceToNat, Int.reduceAdd, Int.reduceSub, Int.reduceMul, Int.reduceNeg, reduceCtorEq, Option.bind_some, Option.map_some, List.length_cons, List.length_nil, vcM, List.getElem?_toArray, List.getElem?_cons_zero, List.getElem?_cons_succ]
  have hff : (!(decide (kk = kk))) = false := by simp
  (refine W_at c5_ok ?_; refine ⟨_, rfl, ?_⟩; simp (disch := first | omega | assumption | rfl | (simp only [vcS] <;> omega) | fail) only [↓vcL1, ptS2_eq, ↓vcA, vcB, ↓vcD, vcE, ↓reduceIte, Nat.reduceEqDiff, Nat.reduceAdd, Nat.reduceMul, Nat.reduceLeDiff, Int.reduceLE, Int.reduceLT, Int.reduceEq, Int.reduceToNat, Int.reduceAdd, Int.reduceSub, Int.reduceMul, Int.reduceNeg, reduceCtorEq, Option.bind_some, Option.map_some, List.length_cons, List.length_nil, vcM, List.getElem?_toArray, List.getElem?_cons_zero, List.getElem?_cons_succ, hff])
  refine callV_ret (same_ok w3 v v2 ps hpp hP2 (fun p hp => (hall.2 p hp).1) (by omega)) ?_
  rintro _ w4 ⟨rfl, hE4⟩
  simp (disch := first | omega | assumption | rfl | (simp only [vcS] <;> omega) | fail) only [↓vcL2, ptS1_eq, ↓vcA, vcB, ↓vcD, vcE, ↓reduceIte, Nat.reduceEqDiff, Nat.reduceAdd, Nat.reduceMul, Nat.reduceLeDiff, Int.reduceLE, Int.reduceLT, Int.reduceEq, Int.reduceToNat, Int.reduceAdd, Int.reduceSub, Int.reduceMul, Int.reduceNeg, reduceCtorEq, Option.bind_some, Option.map_some, List.length_cons, List.length_nil, vcM, List.getElem?_toArray, List.getElem?_cons_zero, List.getElem?_cons_succ]
  refine callV_ret (kept_ok w4 _ y l (hA3.ext hE4).rd (hy w4 ((hE01.ext hE13).ext hE4)) (by omega)) ?_
  rintro _ w5 ⟨rfl, hE5⟩
  simp (disch := first | omega | assumption | rfl | (simp only [vcS] <;> omega) | fail) only [↓vcL1, ptS2_eq, ↓vcA, vcB, ↓vcD, vcE, ↓reduceIte, Nat.reduceEqDiff, Nat.reduceAdd, Nat.reduceMul, Nat.reduceLeDiff, Int.reduceLE, Int.reduceLT, Int.reduceEq, Int.reduceToNat, Int.reduceAdd, Int.reduceSub, Int.reduceMul, Int.reduceNeg, reduceCtorEq, Option.bind_some, Option.map_some, List.length_cons, List.length_nil, vcM, List.getElem?_toArray, List.getElem?_cons_zero, List.getElem?_cons_succ]
  (refine W_at c5_ok ?_; refine ⟨_, rfl, ?_⟩; simp (disch := first | omega | assumption | rfl | (simp only [vcS] <;> omega) | fail) only [↓ptV_l, ↓vcA, vcB, ↓vcD, vcE, ↓reduceIte, Nat.reduceEqDiff, Nat.reduceAdd, Nat.reduceMul, Nat.reduceLeDiff, Int.reduceLE, Int.reduceLT, Int.reduceEq, Int.reduceToNat, Int.reduceAdd, Int.reduceSub, Int.reduceMul, Int.reduceNeg, reduceCtorEq, Option.bind_some, Option.map_some, List.length_cons, List.length_nil, vcM, List.getElem?_toArray, List.getElem?_cons_zero, List.getElem?_cons_succ])
  have hE15 := (hE13.ext hE4).ext hE5
  have hA5 := hA1.ext hE15
  (refine W_at c5_ok ?_; refine ⟨_, rfl, ?_⟩; simp (disch := first | omega | assumption | rfl | (simp only [vcS] <;> omega) | fail) only [↓vcL1, ptS2_eq, ↓vcA, vcB, ↓vcD, vcE, ↓reduceIte, Nat.reduceEqDiff, Nat.reduceAdd, Nat.reduceMul, Nat.reduceLeDiff, Int.reduceLE, Int.reduceLT, Int.reduceEq, Int.reduceToNat, Int.reduceAdd, Int.reduceSub, Int.reduceMul, Int.reduceNeg, reduceCtorEq, Option.bind_some, Option.map_some, List.length_cons, List.length_nil, vcM, List.getElem?_toArray, List.getElem?_cons_zero, List.getElem?_cons_succ])
  refine callV_ret (program_ok w5 _ l (in_rd2 hA5) hbl (by omega)) ?_
  rintro _ w6 ⟨vp, d, ok, rfl, hE6, hpr⟩
  simp (disch := first | omega | assumption | rfl | (simp only [vcS] <;> omega) | fail) only [↓vcL2, ptS1_eq, ↓vcA, vcB, ↓vcD, vcE, ↓reduceIte, Nat.reduceEqDiff, Nat.reduceAdd, Nat.reduceMul, Nat.reduceLeDiff, Int.reduceLE, Int.reduceLT, Int.reduceEq, Int.reduceToNat, Int.reduceAdd, Int.reduceSub, Int.reduceMul, Int.reduceNeg, reduceCtorEq, Option.bind_some, Option.map_some, List.length_cons, List.length_nil, vcM, List.getElem?_toArray, List.getElem?_cons_zero, List.getElem?_cons_succ]
  (refine W_at c5_ok ?_; refine ⟨_, rfl, ?_⟩; simp (disch := first | omega | assumption | rfl | (simp only [vcS] <;> omega) | fail) only [↓vcL1, ptS2_eq, ↓vcA, vcB, ↓vcD, vcE, ↓reduceIte, Nat.reduceEqDiff, Nat.reduceAdd, Nat.reduceMul, Nat.reduceLeDiff, Int.reduceLE, Int.reduceLT, Int.reduceEq, Int.reduceToNat, Int.reduceAdd, Int.reduceSub, Int.reduceMul, Int.reduceNeg, reduceCtorEq, Option.bind_some, Option.map_some, List.length_cons, List.length_nil, vcM, List.getElem?_toArray, List.getElem?_cons_zero, List.getElem?_cons_succ])
  refine callV_ret (rprogram_ok w6 y l (hy w6 ((hE01.ext hE15).ext hE6)) hbl (by omega)) ?_
  rintro _ w7 ⟨vq, d2, rfl, hE7, hpq⟩
  simp (disch := first | omega | assumption | rfl | (simp only [vcS] <;> omega) | fail) only [↓vcL2, ptS1_eq, ↓vcA, vcB, ↓vcD, vcE, ↓reduceIte, Nat.reduceEqDiff, Nat.reduceAdd, Nat.reduceMul, Nat.reduceLeDiff, Int.reduceLE, Int.reduceLT, Int.reduceEq, Int.reduceToNat, Int.reduceAdd, Int.reduceSub, Int.reduceMul, Int.reduceNeg, reduceCtorEq, Option.bind_some, Option.map_some, List.length_cons, List.length_nil, vcM, List.getElem?_toArray, List.getElem?_cons_zero, List.getElem?_cons_succ]
  have hP5 : ∀ t ∈ ts, ∀ g, blk t.2 g → g < w5.heap.size := fun t ht g hg => by
    have := (hP.own t ht).1.lt hg
    have := ((hE3.ext hE4).ext hE5).size
    omega
  have htl : ∀ t ∈ ts, t.1.length ≤ 1000000 := fun t ht => (hall.2 t.1 (by rw [← hts]; exact List.mem_map.2 ⟨t, ht, rfl⟩)).2
  have htn : ts.length ≤ 17 := by have := hall.1; rw [← hts, List.length_map] at this; exact this
  have hw1 : w.heap.size ≤ g0 := by omega
  have hE27 := ((hE3.ext hE4).ext hE5).ext (hE6.ext hE7)
  cases hF : progF l with
  | some vv =>
    obtain ⟨v0, p⟩ := vv
    rw [hF] at hpr hpq
    obtain ⟨rfl, rfl, hOd, hnd⟩ := hpr
    obtain ⟨rfl, hOd2⟩ := hpq
    have hpl : p.length ≤ 1000 ∧ byt p ∧ 0 ≤ vq := by
      unfold progF at hF
      split at hF
      · split at hF
        · rename_i a b t hc
          simp only [Option.some.injEq, Prod.mk.injEq] at hF
          obtain ⟨rfl, rfl⟩ := hF
          simp only [List.length_cons] at hn3
          exact ⟨by omega, fun z hz => hbl z (by simp [hz]), hc.2.2.1⟩
        · cases hF
      · cases hF
    have hv0 : 0 ≤ vq := hpl.2.2
    have hd1 : (!(true == true)) = false := rfl
    (refine W_at c5_ok ?_; refine ⟨_, rfl, ?_⟩; simp (disch := first | omega | assumption | rfl | (simp only [vcS] <;> omega) | fail) only [↓vcL1, ptS2_eq, ↓vcA, vcB, ↓vcD, vcE, ↓reduceIte, Nat.reduceEqDiff, Nat.reduceAdd, Nat.reduceMul, Nat.reduceLeDiff, Int.reduceLE, Int.reduceLT, Int.reduceEq, Int.reduceToNat, Int.reduceAdd, Int.reduceSub, Int.reduceMul, Int.reduceNeg, reduceCtorEq, Option.bind_some, Option.map_some, List.length_cons, List.length_nil, vcM, List.getElem?_toArray, List.getElem?_cons_zero, List.getElem?_cons_succ, hv0, hd1])
    refine callV_ret (equal_ok w7 d d2 p p (hOd.rd.ext hE7) hOd2.rd hpl.2.1 hpl.2.1) ?_
    rintro _ wq ⟨rfl, hw⟩
    obtain rfl : w7 = wq := hw.symm
    have hdd : decide (p = p) = true := decide_eq_true rfl
    simp (disch := first | omega | assumption | rfl | (simp only [vcS] <;> omega) | fail) only [↓vcL2, ptS1_eq, ↓vcA, vcB, ↓vcD, vcE, ↓reduceIte, Nat.reduceEqDiff, Nat.reduceAdd, Nat.reduceMul, Nat.reduceLeDiff, Int.reduceLE, Int.reduceLT, Int.reduceEq, Int.reduceToNat, Int.reduceAdd, Int.reduceSub, Int.reduceMul, Int.reduceNeg, reduceCtorEq, Option.bind_some, Option.map_some, List.length_cons, List.length_nil, vcM, List.getElem?_toArray, List.getElem?_cons_zero, List.getElem?_cons_succ, hdd]
    (refine W_at c5_ok ?_; refine ⟨_, rfl, ?_⟩; simp (disch := first | omega | assumption | rfl | (simp only [vcS] <;> omega) | fail) only [↓ptV_l, ↓vcA, vcB, ↓vcD, vcE, ↓reduceIte, Nat.reduceEqDiff, Nat.reduceAdd, Nat.reduceMul, Nat.reduceLeDiff, Int.reduceLE, Int.reduceLT, Int.reduceEq, Int.reduceToNat, Int.reduceAdd, Int.reduceSub, Int.reduceMul, Int.reduceNeg, reduceCtorEq, Option.bind_some, Option.map_some, List.length_cons, List.length_nil, vcM, List.getElem?_toArray, List.getElem?_cons_zero, List.getElem?_cons_succ])
    exact kinds_end hE01 hE15 (hE6.ext hE7) (hP.ext hE27) hP5 (hOd.ext hE7).b hnd (hA5.ext (hE6.ext hE7)) hw1 hg0' hn3 (by omega) htn htl _
  | none =>
    rw [hF] at hpr hpq
    obtain ⟨rfl, rfl, rfl⟩ := hpr
    obtain ⟨rfl, rfl⟩ := hpq
    have hn0 : ¬ (0 ≤ (-1 : Int)) := by omega
    have hl0 : lenR (.slice none 0 0) = some (.int .i64 0) := rfl
    have hd2 : (!(false == false)) = false := rfl
    (refine W_at c5_ok ?_; refine ⟨_, rfl, ?_⟩; simp (disch := first | omega | assumption | rfl | (simp only [vcS] <;> omega) | fail) only [↓ptV_l, ↓vcA, vcB, ↓vcD, vcE, ↓reduceIte, Nat.reduceEqDiff, Nat.reduceAdd, Nat.reduceMul, Nat.reduceLeDiff, Int.reduceLE, Int.reduceLT, Int.reduceEq, Int.reduceToNat, Int.reduceAdd, Int.reduceSub, Int.reduceMul, Int.reduceNeg, reduceCtorEq, Option.bind_some, Option.map_some, List.length_cons, List.length_nil, vcM, List.getElem?_toArray, List.getElem?_cons_zero, List.getElem?_cons_succ, hn0, hl0, hd2])
    (refine W_at c5_ok ?_; refine ⟨_, rfl, ?_⟩; simp (disch := first | omega | assumption | rfl | (simp only [vcS] <;> omega) | fail) only [↓ptV_l, ↓vcA, vcB, ↓vcD, vcE, ↓reduceIte, Nat.reduceEqDiff, Nat.reduceAdd, Nat.reduceMul, Nat.reduceLeDiff, Int.reduceLE, Int.reduceLT, Int.reduceEq, Int.reduceToNat, Int.reduceAdd, Int.reduceSub, Int.reduceMul, Int.reduceNeg, reduceCtorEq, Option.bind_some, Option.map_some, List.length_cons, List.length_nil, vcM, List.getElem?_toArray, List.getElem?_cons_zero, List.getElem?_cons_succ])
    exact kinds_end (pd := []) hE01 hE15 (hE6.ext hE7) (hP.ext hE27) hP5 (.inl ⟨rfl, rfl⟩) (fun g hg => by cases hg) (hA5.ext (hE6.ext hE7)) hw1 hg0' hn3 (by simp) htn htl _
end Go.Proofs
namespace Go.Proofs.Ythjijgmhicplaaa
open Go.Vc Go.ChangeShapes Go.WideShapes Go.ChangeAt Go.RowKit Go.Proofs
theorem Try.own : ownKnob Try.prog.godebug = none := by kernel_rfl
theorem Try.laidOut : laidOutB Try.prog = true := by kernel_rfl

end Go.Proofs.Ythjijgmhicplaaa
namespace Go.Proofs.Ythjijgmhicplaaa
open Go.Vc Go.ChangeShapes Go.WideShapes Go.ChangeAt Go.RowKit Go.Proofs

set_option maxRecDepth 100000 in
theorem kinds_lifted (os : Os) (started : os.Started) (H : Type) (enc : TypeId × Value → H) :
    ReturnsInHanded {} Try.checked os 5 .any (Rows.scriptKindsSpec.pre6 enc Try.prog Try.f5 Rows.scriptKindsRow.domain false) (Rows.scriptKindsSpec.post enc Try.prog Try.f5 false true false false) := by
  refine returnsInHanded_of_change (C := Try.checked) Try.own started (by kernel_rfl) Try.func5
    (ChangeSpec.witness6 (enc := enc) (C := Try.checked) false ⟨#[], #[.slice none 0 0], []⟩ 8 (by kernel_rfl) (by kernel_rfl) (by kernel_rfl) (by kernel_rfl)) ?_
  intro W base args ds gs before hval0 hW hcnd _
  refine post_true Try.laidOut rfl rfl (tb := 4) (by kernel_rfl) ?_ ?_ hval0 hW ?_
  · rw [Try.params5]; intro t ht; simp at ht; subst ht; exact ⟨by kernel_rfl, of_decide_eq_true (by kernel_rfl)⟩
  · intro ds hd; rw [Try.params5] at hd; match ds, hd with | [d], _ => rfl
  · intro hs ha
    rw [Try.params5] at hs ha
    obtain ⟨v, rfl⟩ := args_1 hs
    obtain ⟨bs, hR, hb⟩ := bytes_of (argSl (m := 4) (by kernel_rfl) Try.underlying22 (ha 0 22 v rfl rfl))
    exact kinds_law W v bs hR hb
theorem kinds_holds : Rows.ScriptKindsSaid :=
  OpenClaim.holds_of_wide 5 Try.f5 rfl rfl rfl rfl rfl rfl rfl ⟨rfl, rfl, rfl, rfl, rfl⟩ rfl rfl rfl rfl rfl (by kernel_rfl) Try.func5 (by kernel_rfl)
    (of_decide_eq_true (by kernel_rfl)) (by unfold Func.isWrapper; first | (rw [if_pos (by decide +kernel)]; kernel_rfl) | (rw [if_neg (by decide +kernel)]; exact ⟨rfl, rfl⟩))
    (fun os started H enc _ => kinds_lifted os started H enc)
end Go.Proofs.Ythjijgmhicplaaa
