/- The law ScriptParses: its walk. -/
import Derived.Test.YthjijgmhicplaaaSC
set_option linter.unusedSimpArgs false
set_option linter.unusedVariables false
set_option linter.constructorNameAsVariable false
namespace Go.Proofs
open Go.Vc
set_option maxRecDepth 10000

theorem row_at {m el : Nat} {w : World} {v : Value} {ts : List TE} (h : w.ownsRow m el 2 v ts.length (opCells ts)) {i : Nat} (hi : i < ts.length) :
    ∃ b o c, v = .slice (some ⟨b, o, none⟩) ts.length c ∧ rdO w.heap[b]? (o + i * 2) 2 = some #[.int .u8 ts[i].1, ts[i].2.2] ∧ cellO w.heap[b]? (o + i * 2) = some (.int .u8 ts[i].1) ∧ cellO w.heap[b]? (o + i * 2 + 1) = some ts[i].2.2 := by
  have hr := rdS_own h
  obtain ⟨_, ⟨rfl, h0⟩ | ⟨g, cap, cur, rfl, _⟩⟩ := id h
  · omega
  have hf : (ts.map fun t => (#[.int .u8 t.1, t.2.2] : Array Value)).flatMap Array.toList = opCells ts := by
    rw [List.flatMap_map]; rfl
  rw [← hf] at hr
  obtain ⟨b, o, e, h1⟩ := rdS_at (size := 2) hr (by simp) (fun x hx => by simp at hx; obtain ⟨a, b, c, _, rfl⟩ := hx; rfl) hi
  cases e
  rw [List.getElem_map] at h1
  exact ⟨g, 0, cap, rfl, h1, rdO_cell h1 (j := 0) (by omega), rdO_cell h1 (j := 1) (by omega)⟩
theorem ops_byt {s : List Int} : ∀ {os : List OE}, byt s → parse s = some os → ∀ o ∈ os, byt o.2 ∧ o.2.length ≤ s.length := by
  intro os hb h
  induction hn : s.length using Nat.strongRecOn generalizing s os with
  | ind n ih =>
    cases s with
    | nil => cases h; intro o ho; cases ho
    | cons c t =>
      cases ho : opR (c :: t) with
      | error k => rw [parse_err (by simp) ho] at h; cases h
      | ok p =>
        obtain ⟨o, rest⟩ := p
        rw [parse_ok hb ho] at h
        obtain ⟨j, hj, hr, hlt, hdl, hdb, _⟩ := opR_drop hb ho
        cases hp : parse rest with
        | none => rw [hp] at h; cases h
        | some os' =>
          rw [hp] at h
          cases h
          have := ih rest.length (by omega) (by rw [hr]; exact byt_drop hb j) hp rfl
          intro o' ho'
          rcases List.mem_cons.1 ho' with rfl | h'
          · exact ⟨hdb, by omega⟩
          · have h2 := this o' h'
            exact ⟨h2.1, by omega⟩
theorem in_rd {wz : World} {g0 : Nat} {l : List Int} (h : Own1 wz (.slice (some ⟨g0, 0, none⟩) (l.length + 9) (l.length + 9)) (spareF l)) : Rd wz (.slice (some ⟨g0, 0, none⟩) l.length (l.length + 9)) l := by
  have h1 := cut_hi h.rd (j := l.length) (by rw [spareF_len]; omega)
  have h2 : (spareF l).take l.length = l := by rw [spareF, List.take_left' rfl]
  rw [h2] at h1
  exact h1
set_option maxHeartbeats 1600000 in
theorem parses_law (w : World) (x : Value) (bs : List Int) (hx : Rd w x bs) (hbb : byt bs) :
    Calls Try.prog 3 #[x] w (Ret fun u w' => u = .bool true ∧ Ext w w') := by
  refine calls_of_cfg c3_ok (Nat.le_of_ble_eq_true rfl) ?_
  simp only [argE_nil, argE_cons, Nat.reduceAdd, Nat.zero_add]
  (refine W_at c3_ok ?_; refine ⟨_, rfl, ?_⟩; simp (disch := first | omega | assumption | rfl | (simp only [vcS] <;> omega) | fail) only [↓ptV_l, ↓vcA, vcB, ↓vcD, vcE, ↓reduceIte, Nat.reduceEqDiff, Nat.reduceAdd, Nat.reduceMul, Nat.reduceLeDiff, Int.reduceLE, Int.reduceLT, Int.reduceEq, Int.reduceToNat, Int.reduceAdd, Int.reduceSub, Int.reduceMul, Int.reduceNeg, reduceCtorEq, Option.bind_some, Option.map_some, List.length_cons, List.length_nil, vcM, List.getElem?_toArray, List.getElem?_cons_zero, List.getElem?_cons_succ])
  (refine W_at c3_ok ?_; refine ⟨_, rfl, ?_⟩; simp (disch := first | omega | assumption | rfl | (simp only [vcS] <;> omega) | fail) only [↓ptV_l, ↓vcA, vcB, ↓vcD, vcE, ↓reduceIte, Nat.reduceEqDiff, Nat.reduceAdd, Nat.reduceMul, Nat.reduceLeDiff, Int.reduceLE, Int.reduceLT, Int.reduceEq, Int.reduceToNat, Int.reduceAdd, Int.reduceSub, Int.reduceMul, Int.reduceNeg, reduceCtorEq, Option.bind_some, Option.map_some, List.length_cons, List.length_nil, vcM, List.getElem?_toArray, List.getElem?_cons_zero, List.getElem?_cons_succ])
  refine callV_ret (awake_ok w) ?_
  rintro _ w0 ⟨rfl, hE0⟩
  simp (disch := first | omega | assumption | rfl | (simp only [vcS] <;> omega) | fail) only [↓ptV_l, ↓vcA, vcB, ↓vcD, vcE, ↓reduceIte, Nat.reduceEqDiff, Nat.reduceAdd, Nat.reduceMul, Nat.reduceLeDiff, Int.reduceLE, Int.reduceLT, Int.reduceEq, Int.reduceToNat, Int.reduceAdd, Int.reduceSub, Int.reduceMul, Int.reduceNeg, reduceCtorEq, Option.bind_some, Option.map_some, List.length_cons, List.length_nil, vcM, List.getElem?_toArray, List.getElem?_cons_zero, List.getElem?_cons_succ]
  (refine W_at c3_ok ?_; refine ⟨_, rfl, ?_⟩; simp (disch := first | omega | assumption | rfl | (simp only [vcS] <;> omega) | fail) only [↓ptV_l, ↓vcA, vcB, ↓vcD, vcE, ↓reduceIte, Nat.reduceEqDiff, Nat.reduceAdd, Nat.reduceMul, Nat.reduceLeDiff, Int.reduceLE, Int.reduceLT, Int.reduceEq, Int.reduceToNat, Int.reduceAdd, Int.reduceSub, Int.reduceMul, Int.reduceNeg, reduceCtorEq, Option.bind_some, Option.map_some, List.length_cons, List.length_nil, vcM, List.getElem?_toArray, List.getElem?_cons_zero, List.getElem?_cons_succ])
  (refine W_at c3_ok ?_; refine ⟨_, rfl, ?_⟩; simp (disch := first | omega | assumption | rfl | (simp only [vcS] <;> omega) | fail) only [↓ptV_l, ↓vcA, vcB, ↓vcD, vcE, ↓reduceIte, Nat.reduceEqDiff, Nat.reduceAdd, Nat.reduceMul, Nat.reduceLeDiff, Int.reduceLE, Int.reduceLT, Int.reduceEq, Int.reduceToNat, Int.reduceAdd, Int.reduceSub, Int.reduceMul, Int.reduceNeg, reduceCtorEq, Option.bind_some, Option.map_some, List.length_cons, List.length_nil, vcM, List.getElem?_toArray, List.getElem?_cons_zero, List.getElem?_cons_succ])
  refine callV_ret (short_ok w0 x bs 2000 (hx.ext hE0)) ?_
  rintro y wq ⟨hy0, hw⟩
  obtain rfl : w0 = wq := hw.symm
  have hy : ∀ wz, Ext w wz → Rd wz y (bs.take 2000) := fun wz hz => hy0 wz (hx.ext hz)
  have hn3 : (bs.take 2000).length ≤ 2000 := by rw [List.length_take]; omega
  have hbl : byt (bs.take 2000) := byt_take hbb 2000
  generalize bs.take 2000 = l at hy hn3 hbl
  clear hy0
  first | (simp (disch := first | omega | assumption | rfl | (simp only [vcS] <;> omega) | fail) only [↓ptV_l, ↓vcA, vcB, ↓vcD, vcE, ↓reduceIte, Nat.reduceEqDiff, Nat.reduceAdd, Nat.reduceMul, Nat.reduceLeDiff, Int.reduceLE, Int.reduceLT, Int.reduceEq, Int.reduceToNat, Int.reduceAdd, Int.reduceSub, Int.reduceMul, Int.reduceNeg, reduceCtorEq, Option.bind_some, Option.map_some, List.length_cons, List.length_nil, vcM, List.getElem?_toArray, List.getElem?_cons_zero, List.getElem?_cons_succ]) | skip
  (refine W_at c3_ok ?_; refine ⟨_, rfl, ?_⟩; simp (disch := first | omega | assumption | rfl | (simp only [vcS] <;> omega) | fail) only [↓ptV_l, ↓vcA, vcB, ↓vcD, vcE, ↓reduceIte, Nat.reduceEqDiff, Nat.reduceAdd, Nat.reduceMul, Nat.reduceLeDiff, Int.reduceLE, Int.reduceLT, Int.reduceEq, Int.reduceToNat, Int.reduceAdd, Int.reduceSub, Int.reduceMul, Int.reduceNeg, reduceCtorEq, Option.bind_some, Option.map_some, List.length_cons, List.length_nil, vcM, List.getElem?_toArray, List.getElem?_cons_zero, List.getElem?_cons_succ])
  refine callV_ret (spare_ok w0 y l (hy w0 hE0) hbl (by omega)) ?_
  rintro _ w1 ⟨g0, rfl, hA1, hE1, hg0⟩
  have hg0' : g0 < w1.heap.size := hA1.lt rfl
  have hs0 := hE0.size
  simp (disch := first | omega | assumption | rfl | (simp only [vcS] <;> omega) | fail) only [↓ptV_l, ↓vcA, vcB, ↓vcD, vcE, ↓reduceIte, Nat.reduceEqDiff, Nat.reduceAdd, Nat.reduceMul, Nat.reduceLeDiff, Int.reduceLE, Int.reduceLT, Int.reduceEq, Int.reduceToNat, Int.reduceAdd, Int.reduceSub, Int.reduceMul, Int.reduceNeg, reduceCtorEq, Option.bind_some, Option.map_some, List.length_cons, List.length_nil, vcM, List.getElem?_toArray, List.getElem?_cons_zero, List.getElem?_cons_succ]
  (refine W_at c3_ok ?_; refine ⟨_, rfl, ?_⟩; simp (disch := first | omega | assumption | rfl | (simp only [vcS] <;> omega) | fail) only [↓ptV_l, ↓vcA, vcB, ↓vcD, vcE, ↓reduceIte, Nat.reduceEqDiff, Nat.reduceAdd, Nat.reduceMul, Nat.reduceLeDiff, Int.reduceLE, Int.reduceLT, Int.reduceEq, Int.reduceToNat, Int.reduceAdd, Int.reduceSub, Int.reduceMul, Int.reduceNeg, reduceCtorEq, Option.bind_some, Option.map_some, List.length_cons, List.length_nil, vcM, List.getElem?_toArray, List.getElem?_cons_zero, List.getElem?_cons_succ])
  refine callV_ret (parse_ok' w1 _ l (in_rd hA1) hbl (by omega)) ?_
  rintro u2 w2 ⟨hE2, hP2⟩
  have hE02 := (hE0.ext hE1).ext hE2
  have hA2 := hA1.ext hE2
  -- the last look
  have hlast : ∀ (tl : Env) (wz : World), Ext w wz → Own1 wz (.slice (some ⟨g0, 0, none⟩) (l.length + 9) (l.length + 9)) (spareF l) →
      W Try.prog (Ret fun u w' => u = .bool true ∧ Ext w w') 3 2 ((0, y) :: (4, .slice (some ⟨g0, 0, none⟩) (l.length + 9) (l.length + 9)) :: tl) wz := by
    intro tl wz hEz hAz
    (refine W_at c3_ok ?_; refine ⟨_, rfl, ?_⟩; simp (disch := first | omega | assumption | rfl | (simp only [vcS] <;> omega) | fail) only [↓ptV_l, ↓vcA, vcB, ↓vcD, vcE, ↓reduceIte, Nat.reduceEqDiff, Nat.reduceAdd, Nat.reduceMul, Nat.reduceLeDiff, Int.reduceLE, Int.reduceLT, Int.reduceEq, Int.reduceToNat, Int.reduceAdd, Int.reduceSub, Int.reduceMul, Int.reduceNeg, reduceCtorEq, Option.bind_some, Option.map_some, List.length_cons, List.length_nil, vcM, List.getElem?_toArray, List.getElem?_cons_zero, List.getElem?_cons_succ])
    refine callV_ret (kept_ok wz _ y l hAz.rd (hy wz hEz) (by omega)) ?_
    rintro _ wy ⟨rfl, hEy⟩
    first | (simp (disch := first | omega | assumption | rfl | (simp only [vcS] <;> omega) | fail) only [↓ptV_l, ↓vcA, vcB, ↓vcD, vcE, ↓reduceIte, Nat.reduceEqDiff, Nat.reduceAdd, Nat.reduceMul, Nat.reduceLeDiff, Int.reduceLE, Int.reduceLT, Int.reduceEq, Int.reduceToNat, Int.reduceAdd, Int.reduceSub, Int.reduceMul, Int.reduceNeg, reduceCtorEq, Option.bind_some, Option.map_some, List.length_cons, List.length_nil, vcM, List.getElem?_toArray, List.getElem?_cons_zero, List.getElem?_cons_succ]) | skip
    (refine W_at c3_ok ?_; refine ⟨_, rfl, ?_⟩; simp (disch := first | omega | assumption | rfl | (simp only [vcS] <;> omega) | fail) only [↓ptV_l, ↓vcA, vcB, ↓vcD, vcE, ↓reduceIte, Nat.reduceEqDiff, Nat.reduceAdd, Nat.reduceMul, Nat.reduceLeDiff, Int.reduceLE, Int.reduceLT, Int.reduceEq, Int.reduceToNat, Int.reduceAdd, Int.reduceSub, Int.reduceMul, Int.reduceNeg, reduceCtorEq, Option.bind_some, Option.map_some, List.length_cons, List.length_nil, vcM, List.getElem?_toArray, List.getElem?_cons_zero, List.getElem?_cons_succ, Ret_returned])
    exact hEz.ext hEy
  have hpu := fun wz (hEz : Ext w2 wz) => pushes_ok wz (.slice (some ⟨g0, 0, none⟩) l.length (l.length + 9)) l (in_rd (hA2.ext hEz)) hbl (by omega)
  rcases hP2 with ⟨hnone, rfl⟩ | ⟨v, ts, hsome, rfl, hO⟩
  · simp (disch := first | omega | assumption | rfl | (simp only [vcS] <;> omega) | fail) only [↓ptV_l, ↓vcA, vcB, ↓vcD, vcE, ↓reduceIte, Nat.reduceEqDiff, Nat.reduceAdd, Nat.reduceMul, Nat.reduceLeDiff, Int.reduceLE, Int.reduceLT, Int.reduceEq, Int.reduceToNat, Int.reduceAdd, Int.reduceSub, Int.reduceMul, Int.reduceNeg, reduceCtorEq, Option.bind_some, Option.map_some, List.length_cons, List.length_nil, vcM, List.getElem?_toArray, List.getElem?_cons_zero, List.getElem?_cons_succ]
    (refine W_at c3_ok ?_; refine ⟨_, rfl, ?_⟩; simp (disch := first | omega | assumption | rfl | (simp only [vcS] <;> omega) | fail) only [↓ptV_l, ↓vcA, vcB, ↓vcD, vcE, ↓reduceIte, Nat.reduceEqDiff, Nat.reduceAdd, Nat.reduceMul, Nat.reduceLeDiff, Int.reduceLE, Int.reduceLT, Int.reduceEq, Int.reduceToNat, Int.reduceAdd, Int.reduceSub, Int.reduceMul, Int.reduceNeg, reduceCtorEq, Option.bind_some, Option.map_some, List.length_cons, List.length_nil, vcM, List.getElem?_toArray, List.getElem?_cons_zero, List.getElem?_cons_succ])
    refine callV_ret (rparse_ok w2 y l (hy w2 hE02) hbl (by omega)) ?_
    rintro u3 w3 ⟨hE3, ⟨_, rfl⟩ | ⟨v3, us, hsome, _⟩⟩
    · simp (disch := first | omega | assumption | rfl | (simp only [vcS] <;> omega) | fail) only [↓ptV_l, ↓vcA, vcB, ↓vcD, vcE, ↓reduceIte, Nat.reduceEqDiff, Nat.reduceAdd, Nat.reduceMul, Nat.reduceLeDiff, Int.reduceLE, Int.reduceLT, Int.reduceEq, Int.reduceToNat, Int.reduceAdd, Int.reduceSub, Int.reduceMul, Int.reduceNeg, reduceCtorEq, Option.bind_some, Option.map_some, List.length_cons, List.length_nil, vcM, List.getElem?_toArray, List.getElem?_cons_zero, List.getElem?_cons_succ]
      have h0 : lenR (.slice none 0 0) = some (.int .i64 0) := rfl
      have hff : (!(false == false)) = false := rfl
      have hpp : (!(pushesF l == pushesF l)) = false := by simp
      (refine W_at c3_ok ?_; refine ⟨_, rfl, ?_⟩; simp (disch := first | omega | assumption | rfl | (simp only [vcS] <;> omega) | fail) only [↓vcL1, ptS2_eq, ↓vcA, vcB, ↓vcD, vcE, ↓reduceIte, Nat.reduceEqDiff, Nat.reduceAdd, Nat.reduceMul, Nat.reduceLeDiff, Int.reduceLE, Int.reduceLT, Int.reduceEq, Int.reduceToNat, Int.reduceAdd, Int.reduceSub, Int.reduceMul, Int.reduceNeg, reduceCtorEq, Option.bind_some, Option.map_some, List.length_cons, List.length_nil, vcM, List.getElem?_toArray, List.getElem?_cons_zero, List.getElem?_cons_succ, h0, hff])
      refine callV_ret (hpu w3 hE3) ?_
      rintro _ w4 ⟨rfl, hE4⟩
      simp (disch := first | omega | assumption | rfl | (simp only [vcS] <;> omega) | fail) only [↓vcL2, ptS1_eq, ↓vcA, vcB, ↓vcD, vcE, ↓reduceIte, Nat.reduceEqDiff, Nat.reduceAdd, Nat.reduceMul, Nat.reduceLeDiff, Int.reduceLE, Int.reduceLT, Int.reduceEq, Int.reduceToNat, Int.reduceAdd, Int.reduceSub, Int.reduceMul, Int.reduceNeg, reduceCtorEq, Option.bind_some, Option.map_some, List.length_cons, List.length_nil, vcM, List.getElem?_toArray, List.getElem?_cons_zero, List.getElem?_cons_succ]
      refine callV_ret (rpushes_ok w4 y l (hy w4 ((hE02.ext hE3).ext hE4)) hbl (by omega)) ?_
      rintro _ w5 ⟨rfl, hE5⟩
      simp (disch := first | omega | assumption | rfl | (simp only [vcS] <;> omega) | fail) only [↓vcL1, ptS2_eq, ↓vcA, vcB, ↓vcD, vcE, ↓reduceIte, Nat.reduceEqDiff, Nat.reduceAdd, Nat.reduceMul, Nat.reduceLeDiff, Int.reduceLE, Int.reduceLT, Int.reduceEq, Int.reduceToNat, Int.reduceAdd, Int.reduceSub, Int.reduceMul, Int.reduceNeg, reduceCtorEq, Option.bind_some, Option.map_some, List.length_cons, List.length_nil, vcM, List.getElem?_toArray, List.getElem?_cons_zero, List.getElem?_cons_succ, hpp]
      have hE25 := (hE3.ext hE4).ext hE5
      refine callV_ret (kept_ok w5 _ y l (hA2.ext hE25).rd (hy w5 (hE02.ext hE25)) (by omega)) ?_
      rintro _ w6 ⟨rfl, hE6⟩
      simp (disch := first | omega | assumption | rfl | (simp only [vcS] <;> omega) | fail) only [↓vcL2, ptS1_eq, ↓vcA, vcB, ↓vcD, vcE, ↓reduceIte, Nat.reduceEqDiff, Nat.reduceAdd, Nat.reduceMul, Nat.reduceLeDiff, Int.reduceLE, Int.reduceLT, Int.reduceEq, Int.reduceToNat, Int.reduceAdd, Int.reduceSub, Int.reduceMul, Int.reduceNeg, reduceCtorEq, Option.bind_some, Option.map_some, List.length_cons, List.length_nil, vcM, List.getElem?_toArray, List.getElem?_cons_zero, List.getElem?_cons_succ]
      have hE26 := hE25.ext hE6
      (refine W_at c3_ok ?_; refine ⟨_, rfl, ?_⟩; simp (disch := first | omega | assumption | rfl | (simp only [vcS] <;> omega) | fail) only [↓ptV_l, ↓vcA, vcB, ↓vcD, vcE, ↓reduceIte, Nat.reduceEqDiff, Nat.reduceAdd, Nat.reduceMul, Nat.reduceLeDiff, Int.reduceLE, Int.reduceLT, Int.reduceEq, Int.reduceToNat, Int.reduceAdd, Int.reduceSub, Int.reduceMul, Int.reduceNeg, reduceCtorEq, Option.bind_some, Option.map_some, List.length_cons, List.length_nil, vcM, List.getElem?_toArray, List.getElem?_cons_zero, List.getElem?_cons_succ])
      (refine W_at c3_ok ?_; refine ⟨_, rfl, ?_⟩; simp (disch := first | omega | assumption | rfl | (simp only [vcS] <;> omega) | fail) only [↓ptV_l, ↓vcA, vcB, ↓vcD, vcE, ↓reduceIte, Nat.reduceEqDiff, Nat.reduceAdd, Nat.reduceMul, Nat.reduceLeDiff, Int.reduceLE, Int.reduceLT, Int.reduceEq, Int.reduceToNat, Int.reduceAdd, Int.reduceSub, Int.reduceMul, Int.reduceNeg, reduceCtorEq, Option.bind_some, Option.map_some, List.length_cons, List.length_nil, vcM, List.getElem?_toArray, List.getElem?_cons_zero, List.getElem?_cons_succ, h0])
      (refine W_at c3_ok ?_; refine ⟨_, rfl, ?_⟩; simp (disch := first | omega | assumption | rfl | (simp only [vcS] <;> omega) | fail) only [↓ptV_l, ↓vcA, vcB, ↓vcD, vcE, ↓reduceIte, Nat.reduceEqDiff, Nat.reduceAdd, Nat.reduceMul, Nat.reduceLeDiff, Int.reduceLE, Int.reduceLT, Int.reduceEq, Int.reduceToNat, Int.reduceAdd, Int.reduceSub, Int.reduceMul, Int.reduceNeg, reduceCtorEq, Option.bind_some, Option.map_some, List.length_cons, List.length_nil, vcM, List.getElem?_toArray, List.getElem?_cons_zero, List.getElem?_cons_succ])
      (refine W_at c3_ok ?_; refine ⟨_, rfl, ?_⟩; simp (disch := first | omega | assumption | rfl | (simp only [vcS] <;> omega) | fail) only [↓ptV_l, ↓vcA, vcB, ↓vcD, vcE, ↓reduceIte, Nat.reduceEqDiff, Nat.reduceAdd, Nat.reduceMul, Nat.reduceLeDiff, Int.reduceLE, Int.reduceLT, Int.reduceEq, Int.reduceToNat, Int.reduceAdd, Int.reduceSub, Int.reduceMul, Int.reduceNeg, reduceCtorEq, Option.bind_some, Option.map_some, List.length_cons, List.length_nil, vcM, List.getElem?_toArray, List.getElem?_cons_zero, List.getElem?_cons_succ])
      exact hlast _ w6 (hE02.ext hE26) (hA2.ext hE26)
    · rw [hnone] at hsome; cases hsome
  · simp (disch := first | omega | assumption | rfl | (simp only [vcS] <;> omega) | fail) only [↓ptV_l, ↓vcA, vcB, ↓vcD, vcE, ↓reduceIte, Nat.reduceEqDiff, Nat.reduceAdd, Nat.reduceMul, Nat.reduceLeDiff, Int.reduceLE, Int.reduceLT, Int.reduceEq, Int.reduceToNat, Int.reduceAdd, Int.reduceSub, Int.reduceMul, Int.reduceNeg, reduceCtorEq, Option.bind_some, Option.map_some, List.length_cons, List.length_nil, vcM, List.getElem?_toArray, List.getElem?_cons_zero, List.getElem?_cons_succ]
    (refine W_at c3_ok ?_; refine ⟨_, rfl, ?_⟩; simp (disch := first | omega | assumption | rfl | (simp only [vcS] <;> omega) | fail) only [↓ptV_l, ↓vcA, vcB, ↓vcD, vcE, ↓reduceIte, Nat.reduceEqDiff, Nat.reduceAdd, Nat.reduceMul, Nat.reduceLeDiff, Int.reduceLE, Int.reduceLT, Int.reduceEq, Int.reduceToNat, Int.reduceAdd, Int.reduceSub, Int.reduceMul, Int.reduceNeg, reduceCtorEq, Option.bind_some, Option.map_some, List.length_cons, List.length_nil, vcM, List.getElem?_toArray, List.getElem?_cons_zero, List.getElem?_cons_succ])
    refine callV_ret (rparse_ok w2 y l (hy w2 hE02) hbl (by omega)) ?_
    rintro u3 w3 ⟨hE3, ⟨hnone, _⟩ | ⟨v3, us, hsome3, rfl, hU⟩⟩
    · rw [hnone] at hsome; cases hsome
    · rw [hsome] at hsome3
      have hops : opsOf ts = opsOf us := Option.some.inj hsome3
      have hlen : us.length = ts.length := by rw [← opsOf_len us, ← hops, opsOf_len]
      have hbd := opsOf_bound hbl hsome
      rw [opsOf_len] at hbd
      have hl1 := hO.len
      have hl3 := hU.len
      rw [hlen] at hl3
      simp (disch := first | omega | assumption | rfl | (simp only [vcS] <;> omega) | fail) only [↓ptV_l, ↓vcA, vcB, ↓vcD, vcE, ↓reduceIte, Nat.reduceEqDiff, Nat.reduceAdd, Nat.reduceMul, Nat.reduceLeDiff, Int.reduceLE, Int.reduceLT, Int.reduceEq, Int.reduceToNat, Int.reduceAdd, Int.reduceSub, Int.reduceMul, Int.reduceNeg, reduceCtorEq, Option.bind_some, Option.map_some, List.length_cons, List.length_nil, vcM, List.getElem?_toArray, List.getElem?_cons_zero, List.getElem?_cons_succ]
      have htt : (!(true == true)) = false := rfl
      have hpp : (!(pushesF l == pushesF l)) = false := by simp
      (refine W_at c3_ok ?_; refine ⟨_, rfl, ?_⟩; simp (disch := first | omega | assumption | rfl | (simp only [vcS] <;> omega) | fail) only [↓vcL1, ptS2_eq, ↓vcA, vcB, ↓vcD, vcE, ↓reduceIte, Nat.reduceEqDiff, Nat.reduceAdd, Nat.reduceMul, Nat.reduceLeDiff, Int.reduceLE, Int.reduceLT, Int.reduceEq, Int.reduceToNat, Int.reduceAdd, Int.reduceSub, Int.reduceMul, Int.reduceNeg, reduceCtorEq, Option.bind_some, Option.map_some, List.length_cons, List.length_nil, vcM, List.getElem?_toArray, List.getElem?_cons_zero, List.getElem?_cons_succ, hl1, hl3, htt])
      refine callV_ret (hpu w3 hE3) ?_
      rintro _ w4 ⟨rfl, hE4⟩
      simp (disch := first | omega | assumption | rfl | (simp only [vcS] <;> omega) | fail) only [↓vcL2, ptS1_eq, ↓vcA, vcB, ↓vcD, vcE, ↓reduceIte, Nat.reduceEqDiff, Nat.reduceAdd, Nat.reduceMul, Nat.reduceLeDiff, Int.reduceLE, Int.reduceLT, Int.reduceEq, Int.reduceToNat, Int.reduceAdd, Int.reduceSub, Int.reduceMul, Int.reduceNeg, reduceCtorEq, Option.bind_some, Option.map_some, List.length_cons, List.length_nil, vcM, List.getElem?_toArray, List.getElem?_cons_zero, List.getElem?_cons_succ]
      refine callV_ret (rpushes_ok w4 y l (hy w4 ((hE02.ext hE3).ext hE4)) hbl (by omega)) ?_
      rintro _ w5 ⟨rfl, hE5⟩
      simp (disch := first | omega | assumption | rfl | (simp only [vcS] <;> omega) | fail) only [↓vcL1, ptS2_eq, ↓vcA, vcB, ↓vcD, vcE, ↓reduceIte, Nat.reduceEqDiff, Nat.reduceAdd, Nat.reduceMul, Nat.reduceLeDiff, Int.reduceLE, Int.reduceLT, Int.reduceEq, Int.reduceToNat, Int.reduceAdd, Int.reduceSub, Int.reduceMul, Int.reduceNeg, reduceCtorEq, Option.bind_some, Option.map_some, List.length_cons, List.length_nil, vcM, List.getElem?_toArray, List.getElem?_cons_zero, List.getElem?_cons_succ, hpp]
      have hE25 := (hE3.ext hE4).ext hE5
      refine callV_ret (kept_ok w5 _ y l (hA2.ext hE25).rd (hy w5 (hE02.ext hE25)) (by omega)) ?_
      rintro _ w6 ⟨rfl, hE6⟩
      simp (disch := first | omega | assumption | rfl | (simp only [vcS] <;> omega) | fail) only [↓vcL2, ptS1_eq, ↓vcA, vcB, ↓vcD, vcE, ↓reduceIte, Nat.reduceEqDiff, Nat.reduceAdd, Nat.reduceMul, Nat.reduceLeDiff, Int.reduceLE, Int.reduceLT, Int.reduceEq, Int.reduceToNat, Int.reduceAdd, Int.reduceSub, Int.reduceMul, Int.reduceNeg, reduceCtorEq, Option.bind_some, Option.map_some, List.length_cons, List.length_nil, vcM, List.getElem?_toArray, List.getElem?_cons_zero, List.getElem?_cons_succ]
      have hE26 := hE25.ext hE6
      have hE36 := (hE4.ext hE5).ext hE6
      have hz1 := hE0.size
      have hz2 := hE1.size
      have hz3 := hE2.size
      have hz4 := hE3.size
      have hz6 := hE36.size
      have hO6 := hO.keep hE26 fun _ _ h => h
      have hU6 := hU.keep hE36 fun _ _ h => h
      have hA6 := hA2.ext hE26
      have hE06 := hE02.ext hE26
      -- where the bytes lie
      have hOlt : ∀ t ∈ ts, ∀ g, blk t.2.2 g → w1.heap.size ≤ g ∧ g < w2.heap.size := fun t ht g hg => ⟨(hO.own t ht).2 g hg, (hO.own t ht).1.lt hg⟩
      have hOrow : ∀ g, blk v g → w1.heap.size ≤ g ∧ g < w2.heap.size := fun g hg => ⟨own_block hO.row hg, by obtain ⟨cur, hc⟩ := row_type hO.row hg; exact lt_of_heap hc⟩
      clear hpu hO hU hA2 hA1 hE4 hE5 hE6 hE25 hE36
      have L : ∀ (k i : Nat) (wj : World), k + i = ts.length → Keep (fun g => w1.heap.size ≤ g ∧ g < w2.heap.size) w6 wj → wj.ownsRow w1.heap.size 37 2 v ts.length (opCells ts) → (∀ j (h : j < ts.length), i ≤ j → Own1 wj ts[j].2.2 ts[j].2.1) →
          W Try.prog (Ret fun u w' => u = .bool true ∧ Ext w w') 3 18 [(0, y), (4, .slice (some ⟨g0, 0, none⟩) (l.length + 9) (l.length + 9)), (5, v), (7, v3), (63, .int .i64 (ts.length : Nat)), (64, .int .i64 i)] wj := by
        intro k
        induction k with
        | zero =>
          intro i wj hi hK hrow hown
          have hlt : ¬ ((i : Int) < (ts.length : Nat)) := by omega
          (refine W_at c3_ok ?_; refine ⟨_, rfl, ?_⟩; simp (disch := first | omega | assumption | rfl | (simp only [vcS] <;> omega) | fail) only [↓ptV_l, ↓vcA, vcB, ↓vcD, vcE, ↓reduceIte, Nat.reduceEqDiff, Nat.reduceAdd, Nat.reduceMul, Nat.reduceLeDiff, Int.reduceLE, Int.reduceLT, Int.reduceEq, Int.reduceToNat, Int.reduceAdd, Int.reduceSub, Int.reduceMul, Int.reduceNeg, reduceCtorEq, Option.bind_some, Option.map_some, List.length_cons, List.length_nil, vcM, List.getElem?_toArray, List.getElem?_cons_zero, List.getElem?_cons_succ, hlt])
          (refine W_at c3_ok ?_; refine ⟨_, rfl, ?_⟩; simp (disch := first | omega | assumption | rfl | (simp only [vcS] <;> omega) | fail) only [↓ptV_l, ↓vcA, vcB, ↓vcD, vcE, ↓reduceIte, Nat.reduceEqDiff, Nat.reduceAdd, Nat.reduceMul, Nat.reduceLeDiff, Int.reduceLE, Int.reduceLT, Int.reduceEq, Int.reduceToNat, Int.reduceAdd, Int.reduceSub, Int.reduceMul, Int.reduceNeg, reduceCtorEq, Option.bind_some, Option.map_some, List.length_cons, List.length_nil, vcM, List.getElem?_toArray, List.getElem?_cons_zero, List.getElem?_cons_succ])
          refine hlast _ wj (hE06.trans hK fun j hj hs => by omega) (hA6.keep hK fun g hg hs => ?_)
          have : g0 = g := Option.some.inj hg
          omega
        | succ k ih =>
          intro i wj hi hK hrow hown
          have hil : i < ts.length := by omega
          have hlt : (i : Int) < (ts.length : Nat) := by omega
          have hi2 : 0 ≤ (i : Int) ∧ (i : Int) < (ts.length : Nat) := by omega
          have hwi : IntKind.i64.wrap ((i : Int) + 1) = ((i + 1 : Nat) : Int) := wrap_i64 (by omega) (by omega)
          have hUj := hU6.keep hK fun g hg hs => by omega
          have hUd := hUj
          obtain ⟨b3, o3, c3, rfl, hrd3, hc30, hc31⟩ := row_at hUj.row (i := i) (by omega)
          rw [hlen] at ih ⊢
          obtain ⟨bv', ov, cv, rfl, hrd, hc0, hc1⟩ := row_at hrow hil
          have hiu : i < us.length := by omega
          have hoi : (ts[i].1, ts[i].2.1) = (us[i].1, us[i].2.1) := by
            have h1 : (opsOf ts)[i]? = some (ts[i].1, ts[i].2.1) := by rw [opsOf, List.getElem?_map, List.getElem?_eq_getElem hil]; rfl
            have h2 : (opsOf us)[i]? = some (us[i].1, us[i].2.1) := by rw [opsOf, List.getElem?_map, List.getElem?_eq_getElem hiu]; rfl
            rw [hops, h2] at h1
            exact (Option.some.inj h1).symm
          simp only [Prod.mk.injEq] at hoi
          have hob := ops_byt hbl hsome (ts[i].1, ts[i].2.1) (List.mem_map.2 ⟨ts[i], List.getElem_mem hil, rfl⟩)
          have hown_i := hown i hil (Nat.le_refl _)
          have hblk_i := hOlt ts[i] (List.getElem_mem hil)
          have hdi : ∀ j (h : j < ts.length), i < j → ∀ g, blk ts[j].2.2 g → ¬ blk ts[i].2.2 g := fun j hj hij g h1 h2 => by
            have h3 := hO6.dist i j (by simpa using hil) (by simpa using hj) g (by simpa using h2) (by simpa using h1)
            omega
          have hUr := (hUj.own us[i] (List.getElem_mem hiu)).1.rd
          rw [← hoi.2] at hUr
          have e1 : us[i].1 = ts[i].1 := hoi.1.symm
          rw [e1] at hrd3 hc30
          have hnn : ¬ (ts[i].1 ≠ ts[i].1) := fun h => h rfl
          have hdl := hown_i.rd.len
          have htd : decide (ts[i].2.1 = ts[i].2.1) = true := decide_eq_true rfl
          have hbd2 : ts[i].2.1.length ≤ l.length := hob.2
          (refine W_at c3_ok ?_; refine ⟨_, rfl, ?_⟩; simp (disch := first | omega | assumption | rfl | (simp only [vcS] <;> omega) | fail) only [↓ptV_l, ↓vcA, vcB, ↓vcD, vcE, ↓reduceIte, Nat.reduceEqDiff, Nat.reduceAdd, Nat.reduceMul, Nat.reduceLeDiff, Int.reduceLE, Int.reduceLT, Int.reduceEq, Int.reduceToNat, Int.reduceAdd, Int.reduceSub, Int.reduceMul, Int.reduceNeg, reduceCtorEq, Option.bind_some, Option.map_some, List.length_cons, List.length_nil, vcM, List.getElem?_toArray, List.getElem?_cons_zero, List.getElem?_cons_succ, hlt])
          (refine W_at c3_ok ?_; refine ⟨_, rfl, ?_⟩; simp (disch := first | omega | assumption | rfl | (simp only [vcS] <;> omega) | fail) only [↓ptV_l, ↓vcA, vcB, ↓vcD, vcE, ↓reduceIte, Nat.reduceEqDiff, Nat.reduceAdd, Nat.reduceMul, Nat.reduceLeDiff, Int.reduceLE, Int.reduceLT, Int.reduceEq, Int.reduceToNat, Int.reduceAdd, Int.reduceSub, Int.reduceMul, Int.reduceNeg, reduceCtorEq, Option.bind_some, Option.map_some, List.length_cons, List.length_nil, vcM, List.getElem?_toArray, List.getElem?_cons_zero, List.getElem?_cons_succ])
          (refine W_at c3_ok ?_; refine ⟨_, rfl, ?_⟩; simp (disch := first | omega | assumption | rfl | (simp only [vcS] <;> omega) | fail) only [↓ptV_l, ↓vcA, vcB, ↓vcD, vcE, ↓reduceIte, Nat.reduceEqDiff, Nat.reduceAdd, Nat.reduceMul, Nat.reduceLeDiff, Int.reduceLE, Int.reduceLT, Int.reduceEq, Int.reduceToNat, Int.reduceAdd, Int.reduceSub, Int.reduceMul, Int.reduceNeg, reduceCtorEq, Option.bind_some, Option.map_some, List.length_cons, List.length_nil, vcM, List.getElem?_toArray, List.getElem?_cons_zero, List.getElem?_cons_succ])
          (refine W_at c3_ok ?_; refine ⟨_, rfl, ?_⟩; simp (disch := first | omega | assumption | rfl | (simp only [vcS] <;> omega) | fail) only [↓vcL1, ptS2_eq, ↓vcA, vcB, ↓vcD, vcE, ↓reduceIte, Nat.reduceEqDiff, Nat.reduceAdd, Nat.reduceMul, Nat.reduceLeDiff, Int.reduceLE, Int.reduceLT, Int.reduceEq, Int.reduceToNat, Int.reduceAdd, Int.reduceSub, Int.reduceMul, Int.reduceNeg, reduceCtorEq, Option.bind_some, Option.map_some, List.length_cons, List.length_nil, vcM, List.getElem?_toArray, List.getElem?_cons_zero, List.getElem?_cons_succ, hi2, Int.toNat_natCast, hc0, hc1, hc30, hc31])
          refine callV_ret (equal_ok wj.drew _ _ ts[i].2.1 ts[i].2.1 (hown_i.rd.ext (Keep.refl _ wj).drew) (hUr.ext (Keep.refl _ wj).drew) hob.1 hob.1) ?_
          rintro _ wq ⟨rfl, hw⟩
          obtain rfl : wj.drew = wq := hw.symm
          rw [htd]
          simp (disch := first | omega | assumption | rfl | (simp only [vcS] <;> omega) | fail) only [↓vcL2, ptS1_eq, ↓vcA, vcB, ↓vcD, vcE, ↓reduceIte, Nat.reduceEqDiff, Nat.reduceAdd, Nat.reduceMul, Nat.reduceLeDiff, Int.reduceLE, Int.reduceLT, Int.reduceEq, Int.reduceToNat, Int.reduceAdd, Int.reduceSub, Int.reduceMul, Int.reduceNeg, reduceCtorEq, Option.bind_some, Option.map_some, List.length_cons, List.length_nil, vcM, List.getElem?_toArray, List.getElem?_cons_zero, List.getElem?_cons_succ]
          have hK1 := hK.drew
          have hrow1 := ownsRow_keep hrow (Keep.refl (fun _ => False) wj).drew fun _ _ h => h
          have hown1 : ∀ j (h : j < ts.length), i ≤ j → Own1 wj.drew ts[j].2.2 ts[j].2.1 := fun j hj hij => (hown j hj hij).ext (Keep.refl _ wj).drew
          have hc1' : cellO wj.drew.heap[bv']? (ov + i * 2 + 1) = some ts[i].2.2 := hc1
          generalize wj.drew = wa at hK1 hrow1 hown1 hc1' ⊢
          clear hrd hc0 hc1 hrd3 hc30 hc31 hUr hUj hUd hK hrow hown hown_i
          (refine W_at c3_ok ?_; refine ⟨_, rfl, ?_⟩; simp (disch := first | omega | assumption | rfl | (simp only [vcS] <;> omega) | fail) only [↓ptV_l, ↓vcA, vcB, ↓vcD, vcE, ↓reduceIte, Nat.reduceEqDiff, Nat.reduceAdd, Nat.reduceMul, Nat.reduceLeDiff, Int.reduceLE, Int.reduceLT, Int.reduceEq, Int.reduceToNat, Int.reduceAdd, Int.reduceSub, Int.reduceMul, Int.reduceNeg, reduceCtorEq, Option.bind_some, Option.map_some, List.length_cons, List.length_nil, vcM, List.getElem?_toArray, List.getElem?_cons_zero, List.getElem?_cons_succ])
          (refine W_at c3_ok ?_; refine ⟨_, rfl, ?_⟩; simp (disch := first | omega | assumption | rfl | (simp only [vcS] <;> omega) | fail) only [↓ptV_l, ↓vcA, vcB, ↓vcD, vcE, ↓reduceIte, Nat.reduceEqDiff, Nat.reduceAdd, Nat.reduceMul, Nat.reduceLeDiff, Int.reduceLE, Int.reduceLT, Int.reduceEq, Int.reduceToNat, Int.reduceAdd, Int.reduceSub, Int.reduceMul, Int.reduceNeg, reduceCtorEq, Option.bind_some, Option.map_some, List.length_cons, List.length_nil, vcM, List.getElem?_toArray, List.getElem?_cons_zero, List.getElem?_cons_succ, hi2, Int.toNat_natCast, hc1', hdl])
          have I : ∀ (k2 t : Nat) (wz : World) (lv : List Int), k2 + t = ts[i].2.1.length → lv.length = ts[i].2.1.length → Own1 wz ts[i].2.2 lv → Keep (fun g => w1.heap.size ≤ g ∧ g < w2.heap.size) w6 wz → wz.ownsRow w1.heap.size 37 2 (.slice (some ⟨bv', ov, none⟩) ts.length cv) ts.length (opCells ts) →
              (∀ j (h : j < ts.length), i < j → Own1 wz ts[j].2.2 ts[j].2.1) →
              W Try.prog (Ret fun u w' => u = .bool true ∧ Ext w w') 3 10 [(0, y), (4, .slice (some ⟨g0, 0, none⟩) (l.length + 9) (l.length + 9)), (5, .slice (some ⟨bv', ov, none⟩) ts.length cv), (7, .slice (some ⟨b3, o3, none⟩) ts.length c3), (9, .int .i64 i), (63, .int .i64 (ts.length : Nat)), (64, .int .i64 i), (97, .int .i64 (ts[i].2.1.length : Nat)), (98, .int .i64 t)] wz := by
            intro k2
            induction k2 with
            | zero =>
              intro t wz lv ht hlv hz hKz hrz hoz
              have hlt2 : ¬ ((t : Int) < (ts[i].2.1.length : Nat)) := by omega
              (refine W_at c3_ok ?_; refine ⟨_, rfl, ?_⟩; simp (disch := first | omega | assumption | rfl | (simp only [vcS] <;> omega) | fail) only [↓ptV_l, ↓vcA, vcB, ↓vcD, vcE, ↓reduceIte, Nat.reduceEqDiff, Nat.reduceAdd, Nat.reduceMul, Nat.reduceLeDiff, Int.reduceLE, Int.reduceLT, Int.reduceEq, Int.reduceToNat, Int.reduceAdd, Int.reduceSub, Int.reduceMul, Int.reduceNeg, reduceCtorEq, Option.bind_some, Option.map_some, List.length_cons, List.length_nil, vcM, List.getElem?_toArray, List.getElem?_cons_zero, List.getElem?_cons_succ, hlt2])
              (refine W_at c3_ok ?_; refine ⟨_, rfl, ?_⟩; simp (disch := first | omega | assumption | rfl | (simp only [vcS] <;> omega) | fail) only [↓ptV_l, ↓vcA, vcB, ↓vcD, vcE, ↓reduceIte, Nat.reduceEqDiff, Nat.reduceAdd, Nat.reduceMul, Nat.reduceLeDiff, Int.reduceLE, Int.reduceLT, Int.reduceEq, Int.reduceToNat, Int.reduceAdd, Int.reduceSub, Int.reduceMul, Int.reduceNeg, reduceCtorEq, Option.bind_some, Option.map_some, List.length_cons, List.length_nil, vcM, List.getElem?_toArray, List.getElem?_cons_zero, List.getElem?_cons_succ])
              (refine W_at c3_ok ?_; refine ⟨_, rfl, ?_⟩; simp (disch := first | omega | assumption | rfl | (simp only [vcS] <;> omega) | fail) only [↓ptV_l, ↓vcA, vcB, ↓vcD, vcE, ↓reduceIte, Nat.reduceEqDiff, Nat.reduceAdd, Nat.reduceMul, Nat.reduceLeDiff, Int.reduceLE, Int.reduceLT, Int.reduceEq, Int.reduceToNat, Int.reduceAdd, Int.reduceSub, Int.reduceMul, Int.reduceNeg, reduceCtorEq, Option.bind_some, Option.map_some, List.length_cons, List.length_nil, vcM, List.getElem?_toArray, List.getElem?_cons_zero, List.getElem?_cons_succ, hwi])
              (refine W_at c3_ok ?_; refine ⟨_, rfl, ?_⟩; simp (disch := first | omega | assumption | rfl | (simp only [vcS] <;> omega) | fail) only [↓ptV_l, ↓vcA, vcB, ↓vcD, vcE, ↓reduceIte, Nat.reduceEqDiff, Nat.reduceAdd, Nat.reduceMul, Nat.reduceLeDiff, Int.reduceLE, Int.reduceLT, Int.reduceEq, Int.reduceToNat, Int.reduceAdd, Int.reduceSub, Int.reduceMul, Int.reduceNeg, reduceCtorEq, Option.bind_some, Option.map_some, List.length_cons, List.length_nil, vcM, List.getElem?_toArray, List.getElem?_cons_zero, List.getElem?_cons_succ])
              exact ih (i + 1) wz (by omega) hKz hrz fun j hj hij => hoz j hj (by omega)
            | succ k2 ih2 =>
              intro t wz lv ht hlv hz hKz hrz hoz
              have hlt2 : (t : Int) < (ts[i].2.1.length : Nat) := by omega
              have ht2 : 0 ≤ (t : Int) ∧ (t : Int) < (ts[i].2.1.length : Nat) := by omega
              have hwt : IntKind.i64.wrap ((t : Int) + 1) = ((t + 1 : Nat) : Int) := wrap_i64 (by omega) (by omega)
              have htl : t < lv.length := by omega
              obtain ⟨bz, oz, cz, ez, _, _, hcz⟩ := row_at hrz hil
              injection ez with ez1 _ ez3
              cases ez1; subst ez3
              obtain ⟨g, cg, eg, hw1, _⟩ := hz.set htl 0
              have hbg : blk ts[i].2.2 g := by rw [eg]; rfl
              have hset := fun z => (by
                obtain ⟨g', cg', eg', _, h2⟩ := hz.set htl z
                rw [eg] at eg'
                injection eg' with a1 a2 a3
                cases a1
                exact h2 : Own1 (wz.setCell ⟨g, t, none⟩ (.int .u8 z)) ts[i].2.2 (lv.set t z))
              obtain ⟨b4, o4, c4, e4, hc4⟩ := hz.rd.at htl
              rw [eg] at e4
              injection e4 with a1 _ a3
              cases a1; subst a3
              rw [Nat.zero_add] at hc4
              rw [eg, hlv] at hcz
              have hblk := hblk_i g hbg
              have hKs : ∀ z, Keep (fun g => w1.heap.size ≤ g ∧ g < w2.heap.size) w6 (wz.setCell ⟨g, t, none⟩ z) := fun z => hKz.setCell z fun _ => hblk
              have hrs : ∀ z, (wz.setCell ⟨g, t, none⟩ z).ownsRow w1.heap.size 37 2 (.slice (some ⟨bv', ov, none⟩) ts.length cv) ts.length (opCells ts) := fun z => ownsRow_keep hrz ((Keep.refl _ wz).setCell (S := fun q => q = g) z fun _ => rfl) fun q hq (e : q = g) => by
                subst e
                obtain ⟨c5, e5⟩ := row_type hrz hq
                obtain ⟨c6, e6⟩ := row_type hz hbg
                rw [e5] at e6; cases e6
              have hos : ∀ z, ∀ j (h : j < ts.length), i < j → Own1 (wz.setCell ⟨g, t, none⟩ z) ts[j].2.2 ts[j].2.1 := fun z j hj hij => (hoz j hj hij).keep ((Keep.refl _ wz).setCell (S := fun q => q = g) z fun _ => rfl) fun q hq (e : q = g) => by
                subst e
                exact hdi j hj hij q hq hbg
              (refine W_at c3_ok ?_; refine ⟨_, rfl, ?_⟩; simp (disch := first | omega | assumption | rfl | (simp only [vcS] <;> omega) | fail) only [↓ptV_l, ↓vcA, vcB, ↓vcD, vcE, ↓reduceIte, Nat.reduceEqDiff, Nat.reduceAdd, Nat.reduceMul, Nat.reduceLeDiff, Int.reduceLE, Int.reduceLT, Int.reduceEq, Int.reduceToNat, Int.reduceAdd, Int.reduceSub, Int.reduceMul, Int.reduceNeg, reduceCtorEq, Option.bind_some, Option.map_some, List.length_cons, List.length_nil, vcM, List.getElem?_toArray, List.getElem?_cons_zero, List.getElem?_cons_succ, hlt2])
              (refine W_at c3_ok ?_; refine ⟨_, rfl, ?_⟩; simp (disch := first | omega | assumption | rfl | (simp only [vcS] <;> omega) | fail) only [↓ptV_l, ↓vcA, vcB, ↓vcD, vcE, ↓reduceIte, Nat.reduceEqDiff, Nat.reduceAdd, Nat.reduceMul, Nat.reduceLeDiff, Int.reduceLE, Int.reduceLT, Int.reduceEq, Int.reduceToNat, Int.reduceAdd, Int.reduceSub, Int.reduceMul, Int.reduceNeg, reduceCtorEq, Option.bind_some, Option.map_some, List.length_cons, List.length_nil, vcM, List.getElem?_toArray, List.getElem?_cons_zero, List.getElem?_cons_succ])
              (refine W_at c3_ok ?_; refine ⟨_, rfl, ?_⟩; simp (disch := first | omega | assumption | rfl | (simp only [vcS] <;> omega) | fail) only [↓ptV_l, ↓vcA, vcB, ↓vcD, vcE, ↓reduceIte, Nat.reduceEqDiff, Nat.reduceAdd, Nat.reduceMul, Nat.reduceLeDiff, Int.reduceLE, Int.reduceLT, Int.reduceEq, Int.reduceToNat, Int.reduceAdd, Int.reduceSub, Int.reduceMul, Int.reduceNeg, reduceCtorEq, Option.bind_some, Option.map_some, List.length_cons, List.length_nil, vcM, List.getElem?_toArray, List.getElem?_cons_zero, List.getElem?_cons_succ])
              (refine W_at c3_ok ?_; refine ⟨_, rfl, ?_⟩; simp (disch := first | omega | assumption | rfl | (simp only [vcS] <;> omega) | fail) only [↓ptV_l, ↓vcA, vcB, ↓vcD, vcE, ↓reduceIte, Nat.reduceEqDiff, Nat.reduceAdd, Nat.reduceMul, Nat.reduceLeDiff, Int.reduceLE, Int.reduceLT, Int.reduceEq, Int.reduceToNat, Int.reduceAdd, Int.reduceSub, Int.reduceMul, Int.reduceNeg, reduceCtorEq, Option.bind_some, Option.map_some, List.length_cons, List.length_nil, vcM, List.getElem?_toArray, List.getElem?_cons_zero, List.getElem?_cons_succ, hi2, ht2, Int.toNat_natCast, Nat.mul_one, Nat.zero_add, hcz, hc4])
              refine ⟨hw1, ?_⟩
              (refine W_at c3_ok ?_; refine ⟨_, rfl, ?_⟩; simp (disch := first | omega | assumption | rfl | (simp only [vcS] <;> omega) | fail) only [↓ptV_l, ↓vcA, vcB, ↓vcD, vcE, ↓reduceIte, Nat.reduceEqDiff, Nat.reduceAdd, Nat.reduceMul, Nat.reduceLeDiff, Int.reduceLE, Int.reduceLT, Int.reduceEq, Int.reduceToNat, Int.reduceAdd, Int.reduceSub, Int.reduceMul, Int.reduceNeg, reduceCtorEq, Option.bind_some, Option.map_some, List.length_cons, List.length_nil, vcM, List.getElem?_toArray, List.getElem?_cons_zero, List.getElem?_cons_succ, hwt])
              (refine W_at c3_ok ?_; refine ⟨_, rfl, ?_⟩; simp (disch := first | omega | assumption | rfl | (simp only [vcS] <;> omega) | fail) only [↓ptV_l, ↓vcA, vcB, ↓vcD, vcE, ↓reduceIte, Nat.reduceEqDiff, Nat.reduceAdd, Nat.reduceMul, Nat.reduceLeDiff, Int.reduceLE, Int.reduceLT, Int.reduceEq, Int.reduceToNat, Int.reduceAdd, Int.reduceSub, Int.reduceMul, Int.reduceNeg, reduceCtorEq, Option.bind_some, Option.map_some, List.length_cons, List.length_nil, vcM, List.getElem?_toArray, List.getElem?_cons_zero, List.getElem?_cons_succ])
              exact ih2 (t + 1) _ _ (by omega) (by rw [List.length_set]; exact hlv) (hset _) (hKs _) (hrs _) (hos _)
          exact I ts[i].2.1.length 0 wa ts[i].2.1 (by omega) rfl (hown1 i hil (Nat.le_refl _)) hK1 hrow1 fun j hj hij => hown1 j hj (by omega)
      (refine W_at c3_ok ?_; refine ⟨_, rfl, ?_⟩; simp (disch := first | omega | assumption | rfl | (simp only [vcS] <;> omega) | fail) only [↓ptV_l, ↓vcA, vcB, ↓vcD, vcE, ↓reduceIte, Nat.reduceEqDiff, Nat.reduceAdd, Nat.reduceMul, Nat.reduceLeDiff, Int.reduceLE, Int.reduceLT, Int.reduceEq, Int.reduceToNat, Int.reduceAdd, Int.reduceSub, Int.reduceMul, Int.reduceNeg, reduceCtorEq, Option.bind_some, Option.map_some, List.length_cons, List.length_nil, vcM, List.getElem?_toArray, List.getElem?_cons_zero, List.getElem?_cons_succ])
      (refine W_at c3_ok ?_; refine ⟨_, rfl, ?_⟩; simp (disch := first | omega | assumption | rfl | (simp only [vcS] <;> omega) | fail) only [↓ptV_l, ↓vcA, vcB, ↓vcD, vcE, ↓reduceIte, Nat.reduceEqDiff, Nat.reduceAdd, Nat.reduceMul, Nat.reduceLeDiff, Int.reduceLE, Int.reduceLT, Int.reduceEq, Int.reduceToNat, Int.reduceAdd, Int.reduceSub, Int.reduceMul, Int.reduceNeg, reduceCtorEq, Option.bind_some, Option.map_some, List.length_cons, List.length_nil, vcM, List.getElem?_toArray, List.getElem?_cons_zero, List.getElem?_cons_succ, hl1])
      exact L ts.length 0 w6 (by omega) (Keep.refl _ _) hO6.row fun j hj _ => (hO6.own _ (List.getElem_mem hj)).1
end Go.Proofs
