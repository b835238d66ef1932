/- The law ScriptPushes: plain, and its walk. -/
import Derived.Test.YthjijgmhicplaaaSD
set_option linter.unusedSimpArgs false
set_option linter.unusedVariables false
set_option linter.constructorNameAsVariable false
namespace Go.Proofs
open Go.Vc
set_option maxRecDepth 10000

def pushC (n : Nat) : Int := if n ≤ 75 then n else if n ≤ 255 then 76 else if n ≤ 65535 then 77 else 78
def pushO (d : List Int) : OE :=
  match d with
  | [x] => if 1 ≤ x ∧ x ≤ 16 then (80 + x, []) else if x = 129 then (79, []) else (1, [x])
  | _ => (pushC d.length, d)
theorem raw_app (b rest : List Int) {n : Int} (h : n = (b.length : Nat)) : rawR n (b ++ rest) = .ok (b, rest) := by rw [h]; exact raw_enc b rest
theorem opR_of {c : Int} {t t' d rest : List Int} {n : Int} (h1 : sizeN c t = .ok (n, t')) (h2 : rawR n t' = .ok (d, rest)) : opR (c :: t) = .ok ((c, d), rest) := by
  rw [opR, h1]; simp only; rw [h2]
theorem opR_gen (d t : List Int) (hl : d.length ≤ 1000000) : opR (pushH d.length ++ d ++ t) = .ok ((pushC d.length, d), t) := by
  rw [List.append_assoc]
  unfold pushH pushC
  by_cases h1 : d.length ≤ 75
  · rw [if_pos h1, if_pos h1]
    exact opR_of (by rw [sizeN, if_pos (by omega)]; rfl) (raw_app d t rfl)
  rw [if_neg h1, if_neg h1]
  by_cases h2 : d.length ≤ 255
  · rw [if_pos h2, if_pos h2]
    have e1 : numR 1 ((d.length : Int) :: (d ++ t)) = .ok ((d.length : Int), d ++ t) := by
      have := num_enc 1 (d.length : Int) (d ++ t) (by omega) (by omega)
      rw [low1 (by omega)] at this; exact this
    exact opR_of (by rw [sizeN, if_neg (by omega), if_pos rfl]; exact e1) (raw_app d t rfl)
  rw [if_neg h2, if_neg h2]
  by_cases h3 : d.length ≤ 65535
  · rw [if_pos h3, if_pos h3]
    exact opR_of (by rw [sizeN, if_neg (by omega), if_neg (by omega), if_pos rfl]; exact num_enc 2 (d.length : Int) (d ++ t) (by omega) (by omega)) (raw_app d t rfl)
  · rw [if_neg h3, if_neg h3]
    exact opR_of (by rw [sizeN, if_neg (by omega), if_neg (by omega), if_neg (by omega), if_pos rfl]; exact num_enc 4 (d.length : Int) (d ++ t) (by omega) (by omega)) (raw_app d t rfl)
theorem opR_push (d t : List Int) (hl : d.length ≤ 1000000) : opR (pushF d ++ t) = .ok (pushO d, t) := by
  match d, hl with
  | [], hl => exact opR_gen [] t hl
  | a :: b :: r, hl => exact opR_gen (a :: b :: r) t hl
  | [x], _ =>
    show opR ((if 1 ≤ x ∧ x ≤ 16 then [80 + x] else if x = 129 then [79] else [1, x]) ++ t) = .ok (if 1 ≤ x ∧ x ≤ 16 then (80 + x, []) else if x = 129 then (79, []) else (1, [x]), t)
    by_cases h1 : 1 ≤ x ∧ x ≤ 16
    · rw [if_pos h1, if_pos h1]
      exact opR_of (n := 0) (by rw [sizeN, if_neg (by omega), if_neg (by omega), if_neg (by omega), if_neg (by omega)]; rfl) (raw0 0 (by omega) t)
    rw [if_neg h1, if_neg h1]
    by_cases h2 : x = 129
    · rw [if_pos h2, if_pos h2]
      exact opR_of (n := 0) (by rw [sizeN, if_neg (by omega), if_neg (by omega), if_neg (by omega), if_neg (by omega)]; rfl) (raw0 0 (by omega) t)
    · rw [if_neg h2, if_neg h2]
      exact opR_of (by rw [sizeN, if_pos (by omega)]; rfl) (raw_app [x] t rfl)
theorem parse_push2 (d m : List Int) (hd : byt d) (hm : byt m) (h1 : d.length ≤ 1000000) (h2 : m.length ≤ 1000000) : parse (pushF d ++ pushF m) = some [pushO d, pushO m] := by
  have e2 := opR_push m [] h2
  rw [List.append_nil] at e2
  rw [parse_ok (byt_app (pushF_byt hd) (pushF_byt hm)) (opR_push d (pushF m) h1), parse_ok (pushF_byt hm) e2, parse_nil]
  rfl
theorem pushC_r (n : Nat) : 0 ≤ pushC n ∧ pushC n ≤ 78 := by
  unfold pushC; split
  · omega
  · split
    · omega
    · split <;> omega
theorem pushes_push (d : List Int) (hd : byt d) (h1 : d.length ≤ 1000000) : pushesF (pushF d) = true := by
  have e2 := opR_push d [] h1
  rw [List.append_nil] at e2
  have hc : (pushO d).1 ≤ 96 := by
    match d with
    | [] => exact Int.le_trans (pushC_r 0).2 (by decide)
    | a :: b :: r => exact Int.le_trans (pushC_r (a :: b :: r).length).2 (by decide)
    | [x] =>
      show (if 1 ≤ x ∧ x ≤ 16 then ((80 + x, []) : OE) else if x = 129 then (79, []) else (1, [x])).1 ≤ 96
      split
      · simp only; omega
      · split <;> simp only <;> omega
  rw [pushesF, parse_ok (pushF_byt hd) e2, parse_nil]
  simp only [Option.map_some, List.any_cons, List.any_nil, Bool.or_false]
  rw [decide_eq_false (by omega)]; rfl
/-- What the first operation says of the bytes. -/
theorem push_says (d : List Int) : (81 ≤ (pushO d).1 → ∃ x, d = [x] ∧ (pushO d).1 = 80 + x) ∧ ((pushO d).1 = 79 → d = [129]) ∧ (¬ 81 ≤ (pushO d).1 → (pushO d).1 ≠ 79 → (pushO d).2 = d) := by
  have gen : ∀ d : List Int, pushO d = (pushC d.length, d) → (81 ≤ (pushO d).1 → ∃ x, d = [x] ∧ (pushO d).1 = 80 + x) ∧ ((pushO d).1 = 79 → d = [129]) ∧ (¬ 81 ≤ (pushO d).1 → (pushO d).1 ≠ 79 → (pushO d).2 = d) := by
    intro d h
    have := pushC_r d.length
    rw [h]
    refine ⟨fun h => ?_, fun h => ?_, fun _ _ => rfl⟩
    · simp only at h; omega
    · simp only at h; omega
  match d with
  | [] => exact gen [] rfl
  | a :: b :: r => exact gen (a :: b :: r) rfl
  | [x] =>
    have e : pushO [x] = if 1 ≤ x ∧ x ≤ 16 then (80 + x, []) else if x = 129 then (79, []) else (1, [x]) := rfl
    by_cases h1 : 1 ≤ x ∧ x ≤ 16
    · rw [e, if_pos h1]
      refine ⟨fun _ => ⟨x, rfl, rfl⟩, fun h => ?_, fun h => ?_⟩
      · simp only at h; omega
      · simp only at h; omega
    · rw [e, if_neg h1]
      by_cases h2 : x = 129
      · rw [if_pos h2]
        refine ⟨fun h => ?_, fun _ => by rw [h2], fun _ h => absurd rfl h⟩
        simp only at h; omega
      · rw [if_neg h2]
        refine ⟨fun h => ?_, fun h => ?_, fun _ _ => rfl⟩
        · simp only at h; omega
        · simp only at h; omega

set_option maxHeartbeats 1600000 in
theorem pushes_law (w : World) (x z : Value) (bs ms : List Int) (hx : Rd w x bs) (hbb : byt bs) (hz : Rd w z ms) (hmb : byt ms) :
    Calls Try.prog 4 #[x, z] w (Ret fun u w' => u = .bool true ∧ Ext w w') := by
  refine calls_of_cfg c4_ok (Nat.le_of_ble_eq_true rfl) ?_
  simp only [argE_nil, argE_cons, Nat.reduceAdd, Nat.zero_add]
  (refine W_at c4_ok ?_; refine ⟨_, rfl, ?_⟩; simp (disch := first | omega | assumption | rfl | (simp only [vcS] <;> omega) | fail) only [↓ptV_l, ↓vcA, vcB, ↓vcD, vcE, ↓reduceIte, Nat.reduceEqDiff, Nat.reduceAdd, Nat.reduceMul, Nat.reduceLeDiff, Int.reduceLE, Int.reduceLT, Int.reduceEq, Int.reduceToNat, Int.reduceAdd, Int.reduceSub, Int.reduceMul, Int.reduceNeg, reduceCtorEq, Option.bind_some, Option.map_some, List.length_cons, List.length_nil, vcM, List.getElem?_toArray, List.getElem?_cons_zero, List.getElem?_cons_succ])
  (refine W_at c4_ok ?_; refine ⟨_, rfl, ?_⟩; simp (disch := first | omega | assumption | rfl | (simp only [vcS] <;> omega) | fail) only [↓ptV_l, ↓vcA, vcB, ↓vcD, vcE, ↓reduceIte, Nat.reduceEqDiff, Nat.reduceAdd, Nat.reduceMul, Nat.reduceLeDiff, Int.reduceLE, Int.reduceLT, Int.reduceEq, Int.reduceToNat, Int.reduceAdd, Int.reduceSub, Int.reduceMul, Int.reduceNeg, reduceCtorEq, Option.bind_some, Option.map_some, List.length_cons, List.length_nil, vcM, List.getElem?_toArray, List.getElem?_cons_zero, List.getElem?_cons_succ])
  refine callV_ret (awake_ok w) ?_
  rintro _ w0 ⟨rfl, hE0⟩
  simp (disch := first | omega | assumption | rfl | (simp only [vcS] <;> omega) | fail) only [↓ptV_l, ↓vcA, vcB, ↓vcD, vcE, ↓reduceIte, Nat.reduceEqDiff, Nat.reduceAdd, Nat.reduceMul, Nat.reduceLeDiff, Int.reduceLE, Int.reduceLT, Int.reduceEq, Int.reduceToNat, Int.reduceAdd, Int.reduceSub, Int.reduceMul, Int.reduceNeg, reduceCtorEq, Option.bind_some, Option.map_some, List.length_cons, List.length_nil, vcM, List.getElem?_toArray, List.getElem?_cons_zero, List.getElem?_cons_succ]
  (refine W_at c4_ok ?_; refine ⟨_, rfl, ?_⟩; simp (disch := first | omega | assumption | rfl | (simp only [vcS] <;> omega) | fail) only [↓ptV_l, ↓vcA, vcB, ↓vcD, vcE, ↓reduceIte, Nat.reduceEqDiff, Nat.reduceAdd, Nat.reduceMul, Nat.reduceLeDiff, Int.reduceLE, Int.reduceLT, Int.reduceEq, Int.reduceToNat, Int.reduceAdd, Int.reduceSub, Int.reduceMul, Int.reduceNeg, reduceCtorEq, Option.bind_some, Option.map_some, List.length_cons, List.length_nil, vcM, List.getElem?_toArray, List.getElem?_cons_zero, List.getElem?_cons_succ])
  (refine W_at c4_ok ?_; refine ⟨_, rfl, ?_⟩; simp (disch := first | omega | assumption | rfl | (simp only [vcS] <;> omega) | fail) only [↓ptV_l, ↓vcA, vcB, ↓vcD, vcE, ↓reduceIte, Nat.reduceEqDiff, Nat.reduceAdd, Nat.reduceMul, Nat.reduceLeDiff, Int.reduceLE, Int.reduceLT, Int.reduceEq, Int.reduceToNat, Int.reduceAdd, Int.reduceSub, Int.reduceMul, Int.reduceNeg, reduceCtorEq, Option.bind_some, Option.map_some, List.length_cons, List.length_nil, vcM, List.getElem?_toArray, List.getElem?_cons_zero, List.getElem?_cons_succ])
  refine callV_ret (short_ok w0 x bs 70000 (hx.ext hE0)) ?_
  rintro y wq ⟨hy0, hw⟩
  obtain rfl : w0 = wq := hw.symm
  have hy : ∀ wz, Ext w wz → Rd wz y (bs.take 70000) := fun wz hz => hy0 wz (hx.ext hz)
  have hn3 : (bs.take 70000).length ≤ 70000 := by rw [List.length_take]; omega
  have hbl : byt (bs.take 70000) := byt_take hbb 70000
  generalize bs.take 70000 = d at hy hn3 hbl
  clear hy0
  first | (simp (disch := first | omega | assumption | rfl | (simp only [vcS] <;> omega) | fail) only [↓ptV_l, ↓vcA, vcB, ↓vcD, vcE, ↓reduceIte, Nat.reduceEqDiff, Nat.reduceAdd, Nat.reduceMul, Nat.reduceLeDiff, Int.reduceLE, Int.reduceLT, Int.reduceEq, Int.reduceToNat, Int.reduceAdd, Int.reduceSub, Int.reduceMul, Int.reduceNeg, reduceCtorEq, Option.bind_some, Option.map_some, List.length_cons, List.length_nil, vcM, List.getElem?_toArray, List.getElem?_cons_zero, List.getElem?_cons_succ]) | skip
  (refine W_at c4_ok ?_; refine ⟨_, rfl, ?_⟩; simp (disch := first | omega | assumption | rfl | (simp only [vcS] <;> omega) | fail) only [↓ptV_l, ↓vcA, vcB, ↓vcD, vcE, ↓reduceIte, Nat.reduceEqDiff, Nat.reduceAdd, Nat.reduceMul, Nat.reduceLeDiff, Int.reduceLE, Int.reduceLT, Int.reduceEq, Int.reduceToNat, Int.reduceAdd, Int.reduceSub, Int.reduceMul, Int.reduceNeg, reduceCtorEq, Option.bind_some, Option.map_some, List.length_cons, List.length_nil, vcM, List.getElem?_toArray, List.getElem?_cons_zero, List.getElem?_cons_succ])
  refine callV_ret (spare_ok w0 y d (hy w0 hE0) hbl (by omega)) ?_
  rintro _ w1 ⟨g0, rfl, hA1, hE1, hg0⟩
  simp (disch := first | omega | assumption | rfl | (simp only [vcS] <;> omega) | fail) only [↓ptV_l, ↓vcA, vcB, ↓vcD, vcE, ↓reduceIte, Nat.reduceEqDiff, Nat.reduceAdd, Nat.reduceMul, Nat.reduceLeDiff, Int.reduceLE, Int.reduceLT, Int.reduceEq, Int.reduceToNat, Int.reduceAdd, Int.reduceSub, Int.reduceMul, Int.reduceNeg, reduceCtorEq, Option.bind_some, Option.map_some, List.length_cons, List.length_nil, vcM, List.getElem?_toArray, List.getElem?_cons_zero, List.getElem?_cons_succ]
  have hE01 := hE0.ext hE1
  (refine W_at c4_ok ?_; refine ⟨_, rfl, ?_⟩; simp (disch := first | omega | assumption | rfl | (simp only [vcS] <;> omega) | fail) only [↓ptV_l, ↓vcA, vcB, ↓vcD, vcE, ↓reduceIte, Nat.reduceEqDiff, Nat.reduceAdd, Nat.reduceMul, Nat.reduceLeDiff, Int.reduceLE, Int.reduceLT, Int.reduceEq, Int.reduceToNat, Int.reduceAdd, Int.reduceSub, Int.reduceMul, Int.reduceNeg, reduceCtorEq, Option.bind_some, Option.map_some, List.length_cons, List.length_nil, vcM, List.getElem?_toArray, List.getElem?_cons_zero, List.getElem?_cons_succ])
  refine callV_ret (push_ok w1 _ d (in_rd hA1) hbl (by omega)) ?_
  intro p w2 hN2
  have hE02 := hE01.ext hN2.ext
  have hA2 := hA1.ext hN2.ext
  have hpl := pushF_len d
  first | (simp (disch := first | omega | assumption | rfl | (simp only [vcS] <;> omega) | fail) only [↓ptV_l, ↓vcA, vcB, ↓vcD, vcE, ↓reduceIte, Nat.reduceEqDiff, Nat.reduceAdd, Nat.reduceMul, Nat.reduceLeDiff, Int.reduceLE, Int.reduceLT, Int.reduceEq, Int.reduceToNat, Int.reduceAdd, Int.reduceSub, Int.reduceMul, Int.reduceNeg, reduceCtorEq, Option.bind_some, Option.map_some, List.length_cons, List.length_nil, vcM, List.getElem?_toArray, List.getElem?_cons_zero, List.getElem?_cons_succ]) | skip
  (refine W_at c4_ok ?_; refine ⟨_, rfl, ?_⟩; simp (disch := first | omega | assumption | rfl | (simp only [vcS] <;> omega) | fail) only [↓vcL1, ptS2_eq, ↓vcA, vcB, ↓vcD, vcE, ↓reduceIte, Nat.reduceEqDiff, Nat.reduceAdd, Nat.reduceMul, Nat.reduceLeDiff, Int.reduceLE, Int.reduceLT, Int.reduceEq, Int.reduceToNat, Int.reduceAdd, Int.reduceSub, Int.reduceMul, Int.reduceNeg, reduceCtorEq, Option.bind_some, Option.map_some, List.length_cons, List.length_nil, vcM, List.getElem?_toArray, List.getElem?_cons_zero, List.getElem?_cons_succ])
  refine callV_ret (rpush_ok w2 y d (hy w2 hE02) hbl (by omega)) ?_
  intro p2 w3 hN3
  have hE03 := hE02.ext hN3.ext
  simp (disch := first | omega | assumption | rfl | (simp only [vcS] <;> omega) | fail) only [↓vcL2, ptS1_eq, ↓vcA, vcB, ↓vcD, vcE, ↓reduceIte, Nat.reduceEqDiff, Nat.reduceAdd, Nat.reduceMul, Nat.reduceLeDiff, Int.reduceLE, Int.reduceLT, Int.reduceEq, Int.reduceToNat, Int.reduceAdd, Int.reduceSub, Int.reduceMul, Int.reduceNeg, reduceCtorEq, Option.bind_some, Option.map_some, List.length_cons, List.length_nil, vcM, List.getElem?_toArray, List.getElem?_cons_zero, List.getElem?_cons_succ]
  refine callV_ret (equal_ok w3 p p2 _ _ (hN2.own.rd.ext hN3.ext) hN3.own.rd (pushF_byt hbl) (pushF_byt hbl)) ?_
  rintro _ wq ⟨rfl, hw⟩
  obtain rfl : w3 = wq := hw.symm
  rw [show decide (pushF d = pushF d) = true from decide_eq_true rfl]
  simp (disch := first | omega | assumption | rfl | (simp only [vcS] <;> omega) | fail) only [↓vcL1, ptS2_eq, ↓vcA, vcB, ↓vcD, vcE, ↓reduceIte, Nat.reduceEqDiff, Nat.reduceAdd, Nat.reduceMul, Nat.reduceLeDiff, Int.reduceLE, Int.reduceLT, Int.reduceEq, Int.reduceToNat, Int.reduceAdd, Int.reduceSub, Int.reduceMul, Int.reduceNeg, reduceCtorEq, Option.bind_some, Option.map_some, List.length_cons, List.length_nil, vcM, List.getElem?_toArray, List.getElem?_cons_zero, List.getElem?_cons_succ]
  refine callV_ret (kept_ok w3 _ y d (hA2.ext hN3.ext).rd (hy w3 hE03) (by omega)) ?_
  rintro _ w4 ⟨rfl, hE4⟩
  simp (disch := first | omega | assumption | rfl | (simp only [vcS] <;> omega) | fail) only [↓vcL2, ptS1_eq, ↓vcA, vcB, ↓vcD, vcE, ↓reduceIte, Nat.reduceEqDiff, Nat.reduceAdd, Nat.reduceMul, Nat.reduceLeDiff, Int.reduceLE, Int.reduceLT, Int.reduceEq, Int.reduceToNat, Int.reduceAdd, Int.reduceSub, Int.reduceMul, Int.reduceNeg, reduceCtorEq, Option.bind_some, Option.map_some, List.length_cons, List.length_nil, vcM, List.getElem?_toArray, List.getElem?_cons_zero, List.getElem?_cons_succ]
  have hE04 := hE03.ext hE4
  have hp4 := (hN2.own.ext hN3.ext).ext hE4
  (refine W_at c4_ok ?_; refine ⟨_, rfl, ?_⟩; simp (disch := first | omega | assumption | rfl | (simp only [vcS] <;> omega) | fail) only [↓ptV_l, ↓vcA, vcB, ↓vcD, vcE, ↓reduceIte, Nat.reduceEqDiff, Nat.reduceAdd, Nat.reduceMul, Nat.reduceLeDiff, Int.reduceLE, Int.reduceLT, Int.reduceEq, Int.reduceToNat, Int.reduceAdd, Int.reduceSub, Int.reduceMul, Int.reduceNeg, reduceCtorEq, Option.bind_some, Option.map_some, List.length_cons, List.length_nil, vcM, List.getElem?_toArray, List.getElem?_cons_zero, List.getElem?_cons_succ])
  (refine W_at c4_ok ?_; refine ⟨_, rfl, ?_⟩; simp (disch := first | omega | assumption | rfl | (simp only [vcS] <;> omega) | fail) only [↓vcL1, ptS2_eq, ↓vcA, vcB, ↓vcD, vcE, ↓reduceIte, Nat.reduceEqDiff, Nat.reduceAdd, Nat.reduceMul, Nat.reduceLeDiff, Int.reduceLE, Int.reduceLT, Int.reduceEq, Int.reduceToNat, Int.reduceAdd, Int.reduceSub, Int.reduceMul, Int.reduceNeg, reduceCtorEq, Option.bind_some, Option.map_some, List.length_cons, List.length_nil, vcM, List.getElem?_toArray, List.getElem?_cons_zero, List.getElem?_cons_succ])
  refine callV_ret (short_ok w4 z ms 300 (hz.ext hE04)) ?_
  rintro y2 wq ⟨hy2, hw⟩
  obtain rfl : w4 = wq := hw.symm
  have hn4 : (ms.take 300).length ≤ 300 := by rw [List.length_take]; omega
  have hbm : byt (ms.take 300) := byt_take hmb 300
  have hy4 := hy2 w4 (hz.ext hE04)
  generalize ms.take 300 = m at hy4 hn4 hbm
  clear hy2
  first | (simp (disch := first | omega | assumption | rfl | (simp only [vcS] <;> omega) | fail) only [↓vcL2, ptS1_eq, ↓vcA, vcB, ↓vcD, vcE, ↓reduceIte, Nat.reduceEqDiff, Nat.reduceAdd, Nat.reduceMul, Nat.reduceLeDiff, Int.reduceLE, Int.reduceLT, Int.reduceEq, Int.reduceToNat, Int.reduceAdd, Int.reduceSub, Int.reduceMul, Int.reduceNeg, reduceCtorEq, Option.bind_some, Option.map_some, List.length_cons, List.length_nil, vcM, List.getElem?_toArray, List.getElem?_cons_zero, List.getElem?_cons_succ]) | skip
  refine callV_ret (push_ok w4 y2 m hy4 hbm (by omega)) ?_
  intro q w5 hN5
  have hE05 := hE04.ext hN5.ext
  have hql := pushF_len m
  first | (simp (disch := first | omega | assumption | rfl | (simp only [vcS] <;> omega) | fail) only [↓vcL1, ptS2_eq, ↓vcA, vcB, ↓vcD, vcE, ↓reduceIte, Nat.reduceEqDiff, Nat.reduceAdd, Nat.reduceMul, Nat.reduceLeDiff, Int.reduceLE, Int.reduceLT, Int.reduceEq, Int.reduceToNat, Int.reduceAdd, Int.reduceSub, Int.reduceMul, Int.reduceNeg, reduceCtorEq, Option.bind_some, Option.map_some, List.length_cons, List.length_nil, vcM, List.getElem?_toArray, List.getElem?_cons_zero, List.getElem?_cons_succ]) | skip
  (refine W_at c4_ok ?_; refine ⟨_, rfl, ?_⟩; simp (disch := first | omega | assumption | rfl | (simp only [vcS] <;> omega) | fail) only [↓ptV_l, ↓vcA, vcB, ↓vcD, vcE, ↓reduceIte, Nat.reduceEqDiff, Nat.reduceAdd, Nat.reduceMul, Nat.reduceLeDiff, Int.reduceLE, Int.reduceLT, Int.reduceEq, Int.reduceToNat, Int.reduceAdd, Int.reduceSub, Int.reduceMul, Int.reduceNeg, reduceCtorEq, Option.bind_some, Option.map_some, List.length_cons, List.length_nil, vcM, List.getElem?_toArray, List.getElem?_cons_zero, List.getElem?_cons_succ])
  have hp5 := hp4.ext hN5.ext
  have hNe := New.lit (w := w5) (bs := []) (by simp)
  refine appN hNe (hp5.rd.ext hNe.ext) (by simp; omega) fun a1 w6 g1 g2 g3 => ?_
  rw [List.nil_append] at g1
  first | (simp (disch := first | omega | assumption | rfl | (simp only [vcS] <;> omega) | fail) only [↓ptV_l, ↓vcA, vcB, ↓vcD, vcE, ↓reduceIte, Nat.reduceEqDiff, Nat.reduceAdd, Nat.reduceMul, Nat.reduceLeDiff, Int.reduceLE, Int.reduceLT, Int.reduceEq, Int.reduceToNat, Int.reduceAdd, Int.reduceSub, Int.reduceMul, Int.reduceNeg, reduceCtorEq, Option.bind_some, Option.map_some, List.length_cons, List.length_nil, vcM, List.getElem?_toArray, List.getElem?_cons_zero, List.getElem?_cons_succ]) | skip
  refine appN g1 (hN5.own.rd.ext g1.ext) (by omega) fun a2 w7 k1 k2 k3 => ?_
  have hE57 := k1.ext
  first | (simp (disch := first | omega | assumption | rfl | (simp only [vcS] <;> omega) | fail) only [↓ptV_l, ↓vcA, vcB, ↓vcD, vcE, ↓reduceIte, Nat.reduceEqDiff, Nat.reduceAdd, Nat.reduceMul, Nat.reduceLeDiff, Int.reduceLE, Int.reduceLT, Int.reduceEq, Int.reduceToNat, Int.reduceAdd, Int.reduceSub, Int.reduceMul, Int.reduceNeg, reduceCtorEq, Option.bind_some, Option.map_some, List.length_cons, List.length_nil, vcM, List.getElem?_toArray, List.getElem?_cons_zero, List.getElem?_cons_succ]) | skip
  refine callV_ret (parse_ok' w7 a2 _ k1.own.rd (byt_app (pushF_byt hbl) (pushF_byt hbm)) (by rw [List.length_append]; omega)) ?_
  have hpar := parse_push2 d m hbl hbm (by omega) (by omega)
  rintro u8 w8 ⟨hE8, ⟨hnone, _⟩ | ⟨v, ts, hsome, rfl, hO⟩⟩
  · rw [hpar] at hnone; cases hnone
  rw [hpar] at hsome
  have hops := (Option.some.inj hsome).symm
  have htl : ts.length = 2 := by rw [← opsOf_len, hops]; rfl
  have hE08 := (hE05.ext hE57).ext hE8
  have hlv := hO.len
  rw [htl] at hlv
  have hlv2 : lenR v = some (.int .i64 2) := hlv
  obtain ⟨b, o, c, rfl, hrd, hc0, hc1⟩ := hO.at (i := 0) (by omega)
  have hcE : ∀ wz, Ext w8 wz → cellO wz.heap[b]? o = some (.int .u8 (ts[0]'(by omega)).1) ∧ cellO wz.heap[b]? (o + 1) = some (ts[0]'(by omega)).2.2 := by
    intro wz hEz
    obtain ⟨b', o', c', e', _, h1, h2⟩ := (hO.keep hEz fun _ _ h => h).at (i := 0) (by omega)
    injection e' with e1 _ _
    cases e1
    exact ⟨h1, h2⟩
  have e0 : ((ts[0]'(by omega)).1, (ts[0]'(by omega)).2.1) = pushO d := by
    have h1 : (opsOf ts)[0]? = some ((ts[0]'(by omega)).1, (ts[0]'(by omega)).2.1) := by rw [opsOf, List.getElem?_map, List.getElem?_eq_getElem (by omega)]; rfl
    rw [hops] at h1
    exact (Option.some.inj h1).symm
  have hown0 := hO.own _ (List.getElem_mem (show 0 < ts.length by omega))
  generalize ts[0]'(by omega) = t0 at hrd hc0 hc1 e0 hown0 hcE
  rw [htl] at hlv2 ⊢
  have hp8 := (hp5.ext hE57).ext hE8
  simp (disch := first | omega | assumption | rfl | (simp only [vcS] <;> omega) | fail) only [↓ptV_l, ↓vcA, vcB, ↓vcD, vcE, ↓reduceIte, Nat.reduceEqDiff, Nat.reduceAdd, Nat.reduceMul, Nat.reduceLeDiff, Int.reduceLE, Int.reduceLT, Int.reduceEq, Int.reduceToNat, Int.reduceAdd, Int.reduceSub, Int.reduceMul, Int.reduceNeg, reduceCtorEq, Option.bind_some, Option.map_some, List.length_cons, List.length_nil, vcM, List.getElem?_toArray, List.getElem?_cons_zero, List.getElem?_cons_succ]
  (refine W_at c4_ok ?_; refine ⟨_, rfl, ?_⟩; simp (disch := first | omega | assumption | rfl | (simp only [vcS] <;> omega) | fail) only [↓vcL1, ptS2_eq, ↓vcA, vcB, ↓vcD, vcE, ↓reduceIte, Nat.reduceEqDiff, Nat.reduceAdd, Nat.reduceMul, Nat.reduceLeDiff, Int.reduceLE, Int.reduceLT, Int.reduceEq, Int.reduceToNat, Int.reduceAdd, Int.reduceSub, Int.reduceMul, Int.reduceNeg, reduceCtorEq, Option.bind_some, Option.map_some, List.length_cons, List.length_nil, vcM, List.getElem?_toArray, List.getElem?_cons_zero, List.getElem?_cons_succ, hlv2])
  refine callV_ret (pushes_ok w8 p _ hp8.rd (pushF_byt hbl) (by omega)) ?_
  rintro _ w9 ⟨rfl, hE9⟩
  rw [pushes_push d hbl (by omega)]
  simp (disch := first | omega | assumption | rfl | (simp only [vcS] <;> omega) | fail) only [↓vcL2, ptS1_eq, ↓vcA, vcB, ↓vcD, vcE, ↓reduceIte, Nat.reduceEqDiff, Nat.reduceAdd, Nat.reduceMul, Nat.reduceLeDiff, Int.reduceLE, Int.reduceLT, Int.reduceEq, Int.reduceToNat, Int.reduceAdd, Int.reduceSub, Int.reduceMul, Int.reduceNeg, reduceCtorEq, Option.bind_some, Option.map_some, List.length_cons, List.length_nil, vcM, List.getElem?_toArray, List.getElem?_cons_zero, List.getElem?_cons_succ]
  have hE09 := hE08.ext hE9
  obtain ⟨s1, s2, s3⟩ := push_says d
  obtain ⟨t1, t2⟩ : t0.1 = (pushO d).1 ∧ t0.2.1 = (pushO d).2 := by rw [← e0]; exact ⟨rfl, rfl⟩
  obtain ⟨h90, h91⟩ := hcE w9 hE9
  rw [t1] at h90
  have hi0 : (0 : Int) < ((2 : Nat) : Int) := by decide
  have hT0 : (0 : Int).toNat = 0 := rfl
  have hylen := (hy w9 hE09).len
  (refine W_at c4_ok ?_; refine ⟨_, rfl, ?_⟩; simp (disch := first | omega | assumption | rfl | (simp only [vcS] <;> omega) | fail) only [↓ptV_l, ↓vcA, vcB, ↓vcD, vcE, ↓reduceIte, Nat.reduceEqDiff, Nat.reduceAdd, Nat.reduceMul, Nat.reduceLeDiff, Int.reduceLE, Int.reduceLT, Int.reduceEq, Int.reduceToNat, Int.reduceAdd, Int.reduceSub, Int.reduceMul, Int.reduceNeg, reduceCtorEq, Option.bind_some, Option.map_some, List.length_cons, List.length_nil, vcM, List.getElem?_toArray, List.getElem?_cons_zero, List.getElem?_cons_succ])
  by_cases c81 : (pushO d).1 ≥ 81
  · obtain ⟨v1, rfl, hv1⟩ := s1 c81
    obtain ⟨b2, o2, c2, rfl, hy0⟩ := (hy w9 hE09).at (i := 0) (by simp)
    have hy0' : cellO w9.heap[b2]? o2 = some (.int .u8 v1) := hy0
    have hvb := hbl v1 (by simp)
    have hw80 : IntKind.u8.wrap (80 + v1 - 80) = v1 := by rw [wrap_u8]; omega
    have hl1 : (([v1].length : Nat) : Int) = 1 := rfl
    have hi1 : (0 : Int) < (([v1].length : Nat) : Int) := by rw [hl1]; decide
    rw [hv1] at h90 c81
    (refine W_at c4_ok ?_; refine ⟨_, rfl, ?_⟩; simp (disch := first | omega | assumption | rfl | (simp only [vcS] <;> omega) | fail) only [↓ptV_l, ↓vcA, vcB, ↓vcD, vcE, ↓reduceIte, Nat.reduceEqDiff, Nat.reduceAdd, Nat.reduceMul, Nat.reduceLeDiff, Int.reduceLE, Int.reduceLT, Int.reduceEq, Int.reduceToNat, Int.reduceAdd, Int.reduceSub, Int.reduceMul, Int.reduceNeg, reduceCtorEq, Option.bind_some, Option.map_some, List.length_cons, List.length_nil, vcM, List.getElem?_toArray, List.getElem?_cons_zero, List.getElem?_cons_succ, hi0, hT0, h90, c81, Nat.zero_mul, Nat.add_zero])
    (refine W_at c4_ok ?_; refine ⟨_, rfl, ?_⟩; simp (disch := first | omega | assumption | rfl | (simp only [vcS] <;> omega) | fail) only [↓ptV_l, ↓vcA, vcB, ↓vcD, vcE, ↓reduceIte, Nat.reduceEqDiff, Nat.reduceAdd, Nat.reduceMul, Nat.reduceLeDiff, Int.reduceLE, Int.reduceLT, Int.reduceEq, Int.reduceToNat, Int.reduceAdd, Int.reduceSub, Int.reduceMul, Int.reduceNeg, reduceCtorEq, Option.bind_some, Option.map_some, List.length_cons, List.length_nil, vcM, List.getElem?_toArray, List.getElem?_cons_zero, List.getElem?_cons_succ])
    (refine W_at c4_ok ?_; refine ⟨_, rfl, ?_⟩; simp (disch := first | omega | assumption | rfl | (simp only [vcS] <;> omega) | fail) only [↓ptV_l, ↓vcA, vcB, ↓vcD, vcE, ↓reduceIte, Nat.reduceEqDiff, Nat.reduceAdd, Nat.reduceMul, Nat.reduceLeDiff, Int.reduceLE, Int.reduceLT, Int.reduceEq, Int.reduceToNat, Int.reduceAdd, Int.reduceSub, Int.reduceMul, Int.reduceNeg, reduceCtorEq, Option.bind_some, Option.map_some, List.length_cons, List.length_nil, vcM, List.getElem?_toArray, List.getElem?_cons_zero, List.getElem?_cons_succ, hylen, hi0, hi1, hT0, h90, hy0', hw80, Nat.zero_mul, Nat.mul_one, Nat.add_zero])
    (refine W_at c4_ok ?_; refine ⟨_, rfl, ?_⟩; simp (disch := first | omega | assumption | rfl | (simp only [vcS] <;> omega) | fail) only [↓ptV_l, ↓vcA, vcB, ↓vcD, vcE, ↓reduceIte, Nat.reduceEqDiff, Nat.reduceAdd, Nat.reduceMul, Nat.reduceLeDiff, Int.reduceLE, Int.reduceLT, Int.reduceEq, Int.reduceToNat, Int.reduceAdd, Int.reduceSub, Int.reduceMul, Int.reduceNeg, reduceCtorEq, Option.bind_some, Option.map_some, List.length_cons, List.length_nil, vcM, List.getElem?_toArray, List.getElem?_cons_zero, List.getElem?_cons_succ, Ret_returned])
    exact hE09.drew
  · by_cases c79 : (pushO d).1 = 79
    · obtain rfl := s2 c79
      obtain ⟨b2, o2, c2, rfl, hy0⟩ := (hy w9 hE09).at (i := 0) (by simp)
      have hy0' : cellO w9.heap[b2]? o2 = some (.int .u8 129) := hy0
      have hl1 : ((([129] : List Int).length : Nat) : Int) = 1 := rfl
      have hi1 : (0 : Int) < ((([129] : List Int).length : Nat) : Int) := by rw [hl1]; decide
      rw [c79] at h90 c81
      (refine W_at c4_ok ?_; refine ⟨_, rfl, ?_⟩; simp (disch := first | omega | assumption | rfl | (simp only [vcS] <;> omega) | fail) only [↓ptV_l, ↓vcA, vcB, ↓vcD, vcE, ↓reduceIte, Nat.reduceEqDiff, Nat.reduceAdd, Nat.reduceMul, Nat.reduceLeDiff, Int.reduceLE, Int.reduceLT, Int.reduceEq, Int.reduceToNat, Int.reduceAdd, Int.reduceSub, Int.reduceMul, Int.reduceNeg, reduceCtorEq, Option.bind_some, Option.map_some, List.length_cons, List.length_nil, vcM, List.getElem?_toArray, List.getElem?_cons_zero, List.getElem?_cons_succ, hi0, hT0, h90, Nat.zero_mul, Nat.add_zero])
      (refine W_at c4_ok ?_; refine ⟨_, rfl, ?_⟩; simp (disch := first | omega | assumption | rfl | (simp only [vcS] <;> omega) | fail) only [↓ptV_l, ↓vcA, vcB, ↓vcD, vcE, ↓reduceIte, Nat.reduceEqDiff, Nat.reduceAdd, Nat.reduceMul, Nat.reduceLeDiff, Int.reduceLE, Int.reduceLT, Int.reduceEq, Int.reduceToNat, Int.reduceAdd, Int.reduceSub, Int.reduceMul, Int.reduceNeg, reduceCtorEq, Option.bind_some, Option.map_some, List.length_cons, List.length_nil, vcM, List.getElem?_toArray, List.getElem?_cons_zero, List.getElem?_cons_succ])
      (refine W_at c4_ok ?_; refine ⟨_, rfl, ?_⟩; simp (disch := first | omega | assumption | rfl | (simp only [vcS] <;> omega) | fail) only [↓ptV_l, ↓vcA, vcB, ↓vcD, vcE, ↓reduceIte, Nat.reduceEqDiff, Nat.reduceAdd, Nat.reduceMul, Nat.reduceLeDiff, Int.reduceLE, Int.reduceLT, Int.reduceEq, Int.reduceToNat, Int.reduceAdd, Int.reduceSub, Int.reduceMul, Int.reduceNeg, reduceCtorEq, Option.bind_some, Option.map_some, List.length_cons, List.length_nil, vcM, List.getElem?_toArray, List.getElem?_cons_zero, List.getElem?_cons_succ, hi0, hT0, h90, Nat.zero_mul, Nat.add_zero])
      (refine W_at c4_ok ?_; refine ⟨_, rfl, ?_⟩; simp (disch := first | omega | assumption | rfl | (simp only [vcS] <;> omega) | fail) only [↓ptV_l, ↓vcA, vcB, ↓vcD, vcE, ↓reduceIte, Nat.reduceEqDiff, Nat.reduceAdd, Nat.reduceMul, Nat.reduceLeDiff, Int.reduceLE, Int.reduceLT, Int.reduceEq, Int.reduceToNat, Int.reduceAdd, Int.reduceSub, Int.reduceMul, Int.reduceNeg, reduceCtorEq, Option.bind_some, Option.map_some, List.length_cons, List.length_nil, vcM, List.getElem?_toArray, List.getElem?_cons_zero, List.getElem?_cons_succ])
      (refine W_at c4_ok ?_; refine ⟨_, rfl, ?_⟩; simp (disch := first | omega | assumption | rfl | (simp only [vcS] <;> omega) | fail) only [↓ptV_l, ↓vcA, vcB, ↓vcD, vcE, ↓reduceIte, Nat.reduceEqDiff, Nat.reduceAdd, Nat.reduceMul, Nat.reduceLeDiff, Int.reduceLE, Int.reduceLT, Int.reduceEq, Int.reduceToNat, Int.reduceAdd, Int.reduceSub, Int.reduceMul, Int.reduceNeg, reduceCtorEq, Option.bind_some, Option.map_some, List.length_cons, List.length_nil, vcM, List.getElem?_toArray, List.getElem?_cons_zero, List.getElem?_cons_succ, hylen, hi1, hT0, hy0', Nat.zero_mul, Nat.mul_one, Nat.add_zero])
      (refine W_at c4_ok ?_; refine ⟨_, rfl, ?_⟩; simp (disch := first | omega | assumption | rfl | (simp only [vcS] <;> omega) | fail) only [↓ptV_l, ↓vcA, vcB, ↓vcD, vcE, ↓reduceIte, Nat.reduceEqDiff, Nat.reduceAdd, Nat.reduceMul, Nat.reduceLeDiff, Int.reduceLE, Int.reduceLT, Int.reduceEq, Int.reduceToNat, Int.reduceAdd, Int.reduceSub, Int.reduceMul, Int.reduceNeg, reduceCtorEq, Option.bind_some, Option.map_some, List.length_cons, List.length_nil, vcM, List.getElem?_toArray, List.getElem?_cons_zero, List.getElem?_cons_succ, Ret_returned])
      exact hE09
    · have hdd := s3 c81 c79
      have hr0 := (hown0.1.rd).ext hE9
      rw [t2, hdd] at hr0
      (refine W_at c4_ok ?_; refine ⟨_, rfl, ?_⟩; simp (disch := first | omega | assumption | rfl | (simp only [vcS] <;> omega) | fail) only [↓ptV_l, ↓vcA, vcB, ↓vcD, vcE, ↓reduceIte, Nat.reduceEqDiff, Nat.reduceAdd, Nat.reduceMul, Nat.reduceLeDiff, Int.reduceLE, Int.reduceLT, Int.reduceEq, Int.reduceToNat, Int.reduceAdd, Int.reduceSub, Int.reduceMul, Int.reduceNeg, reduceCtorEq, Option.bind_some, Option.map_some, List.length_cons, List.length_nil, vcM, List.getElem?_toArray, List.getElem?_cons_zero, List.getElem?_cons_succ, hi0, hT0, h90, c81, Nat.zero_mul, Nat.add_zero])
      (refine W_at c4_ok ?_; refine ⟨_, rfl, ?_⟩; simp (disch := first | omega | assumption | rfl | (simp only [vcS] <;> omega) | fail) only [↓ptV_l, ↓vcA, vcB, ↓vcD, vcE, ↓reduceIte, Nat.reduceEqDiff, Nat.reduceAdd, Nat.reduceMul, Nat.reduceLeDiff, Int.reduceLE, Int.reduceLT, Int.reduceEq, Int.reduceToNat, Int.reduceAdd, Int.reduceSub, Int.reduceMul, Int.reduceNeg, reduceCtorEq, Option.bind_some, Option.map_some, List.length_cons, List.length_nil, vcM, List.getElem?_toArray, List.getElem?_cons_zero, List.getElem?_cons_succ])
      (refine W_at c4_ok ?_; refine ⟨_, rfl, ?_⟩; simp (disch := first | omega | assumption | rfl | (simp only [vcS] <;> omega) | fail) only [↓ptV_l, ↓vcA, vcB, ↓vcD, vcE, ↓reduceIte, Nat.reduceEqDiff, Nat.reduceAdd, Nat.reduceMul, Nat.reduceLeDiff, Int.reduceLE, Int.reduceLT, Int.reduceEq, Int.reduceToNat, Int.reduceAdd, Int.reduceSub, Int.reduceMul, Int.reduceNeg, reduceCtorEq, Option.bind_some, Option.map_some, List.length_cons, List.length_nil, vcM, List.getElem?_toArray, List.getElem?_cons_zero, List.getElem?_cons_succ, hi0, hT0, h90, c79, Nat.zero_mul, Nat.add_zero])
      (refine W_at c4_ok ?_; refine ⟨_, rfl, ?_⟩; simp (disch := first | omega | assumption | rfl | (simp only [vcS] <;> omega) | fail) only [↓ptV_l, ↓vcA, vcB, ↓vcD, vcE, ↓reduceIte, Nat.reduceEqDiff, Nat.reduceAdd, Nat.reduceMul, Nat.reduceLeDiff, Int.reduceLE, Int.reduceLT, Int.reduceEq, Int.reduceToNat, Int.reduceAdd, Int.reduceSub, Int.reduceMul, Int.reduceNeg, reduceCtorEq, Option.bind_some, Option.map_some, List.length_cons, List.length_nil, vcM, List.getElem?_toArray, List.getElem?_cons_zero, List.getElem?_cons_succ])
      (refine W_at c4_ok ?_; refine ⟨_, rfl, ?_⟩; simp (disch := first | omega | assumption | rfl | (simp only [vcS] <;> omega) | fail) only [↓ptV_l, ↓vcA, vcB, ↓vcD, vcE, ↓reduceIte, Nat.reduceEqDiff, Nat.reduceAdd, Nat.reduceMul, Nat.reduceLeDiff, Int.reduceLE, Int.reduceLT, Int.reduceEq, Int.reduceToNat, Int.reduceAdd, Int.reduceSub, Int.reduceMul, Int.reduceNeg, reduceCtorEq, Option.bind_some, Option.map_some, List.length_cons, List.length_nil, vcM, List.getElem?_toArray, List.getElem?_cons_zero, List.getElem?_cons_succ, hi0, hT0, h91, Nat.zero_mul, Nat.add_zero])
      refine callV_ret (equal_ok w9 _ y d d hr0 (hy w9 hE09) hbl hbl) ?_
      rintro _ wq ⟨rfl, hw⟩
      obtain rfl : w9 = wq := hw.symm
      rw [show decide (d = d) = true from decide_eq_true rfl]
      first | (simp (disch := first | omega | assumption | rfl | (simp only [vcS] <;> omega) | fail) only [↓ptV_l, ↓vcA, vcB, ↓vcD, vcE, ↓reduceIte, Nat.reduceEqDiff, Nat.reduceAdd, Nat.reduceMul, Nat.reduceLeDiff, Int.reduceLE, Int.reduceLT, Int.reduceEq, Int.reduceToNat, Int.reduceAdd, Int.reduceSub, Int.reduceMul, Int.reduceNeg, reduceCtorEq, Option.bind_some, Option.map_some, List.length_cons, List.length_nil, vcM, List.getElem?_toArray, List.getElem?_cons_zero, List.getElem?_cons_succ]) | skip
      (refine W_at c4_ok ?_; refine ⟨_, rfl, ?_⟩; simp (disch := first | omega | assumption | rfl | (simp only [vcS] <;> omega) | fail) only [↓ptV_l, ↓vcA, vcB, ↓vcD, vcE, ↓reduceIte, Nat.reduceEqDiff, Nat.reduceAdd, Nat.reduceMul, Nat.reduceLeDiff, Int.reduceLE, Int.reduceLT, Int.reduceEq, Int.reduceToNat, Int.reduceAdd, Int.reduceSub, Int.reduceMul, Int.reduceNeg, reduceCtorEq, Option.bind_some, Option.map_some, List.length_cons, List.length_nil, vcM, List.getElem?_toArray, List.getElem?_cons_zero, List.getElem?_cons_succ, Ret_returned])
      exact hE09
end Go.Proofs
