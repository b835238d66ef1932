/- Scripts of several keys are known. -/
import Derived.Test.YthjijgmhicplaaaSO
set_option linter.unusedSimpArgs false
set_option linter.unusedVariables false
set_option linter.constructorNameAsVariable false
namespace Go.Proofs
open Go.Vc
set_option maxRecDepth 10000

set_option maxHeartbeats 1600000 in
theorem kindM_ok (w : World) (x : Value) (s : List Int) (ps : List (List Int)) (hx : Rd w x s) (hb : byt s) (hl : s.length ≤ 1000000) (hB1 : betF s [118, 169, 20] [136, 172] 20 = none) (hB2 : betF s [169, 20] [135] 20 = none) (hB3 : progF s = none) (hM : multiF s = some ps) :
    Calls Try.prog 20 #[x] w (Ret fun u w' => ∃ v, u = .tuple #[.int .i64 5, v] ∧ PartsAt w' v ps ∧ Ext w w') := by
  refine calls_of_cfg c20_ok (Nat.le_of_ble_eq_true rfl) ?_
  simp only [argE_nil, argE_cons, Nat.reduceAdd, Nat.zero_add]
  (refine W_at c20_ok ?_; refine ⟨_, rfl, ?_⟩; simp (disch := first | omega | assumption | rfl | (simp only [vcS] <;> omega) | fail) only [↓ptV_l, ↓vcA, vcB, ↓vcD, vcE, ↓reduceIte, Nat.reduceEqDiff, Nat.reduceAdd, Nat.reduceMul, Nat.reduceLeDiff, Int.reduceLE, Int.reduceLT, Int.reduceEq, Int.reduceToNat, Int.reduceAdd, Int.reduceSub, Int.reduceMul, Int.reduceNeg, reduceCtorEq, Option.bind_some, Option.map_some, List.length_cons, List.length_nil, vcM, List.getElem?_toArray, List.getElem?_cons_zero, List.getElem?_cons_succ])
  (refine W_at c20_ok ?_; refine ⟨_, rfl, ?_⟩; simp (disch := first | omega | assumption | rfl | (simp only [vcS] <;> omega) | fail) only [↓ptV_l, ↓vcA, vcB, ↓vcD, vcE, ↓reduceIte, Nat.reduceEqDiff, Nat.reduceAdd, Nat.reduceMul, Nat.reduceLeDiff, Int.reduceLE, Int.reduceLT, Int.reduceEq, Int.reduceToNat, Int.reduceAdd, Int.reduceSub, Int.reduceMul, Int.reduceNeg, reduceCtorEq, Option.bind_some, Option.map_some, List.length_cons, List.length_nil, vcM, List.getElem?_toArray, List.getElem?_cons_zero, List.getElem?_cons_succ])
  refine callV_ret (clone_ok w x s hx (by omega)) ?_
  rintro y w1 ⟨hO, hE1, hn1⟩
  have hy := hO.rd
  first | (simp (disch := first | omega | assumption | rfl | (simp only [vcS] <;> omega) | fail) only [↓ptV_l, ↓vcA, vcB, ↓vcD, vcE, ↓reduceIte, Nat.reduceEqDiff, Nat.reduceAdd, Nat.reduceMul, Nat.reduceLeDiff, Int.reduceLE, Int.reduceLT, Int.reduceEq, Int.reduceToNat, Int.reduceAdd, Int.reduceSub, Int.reduceMul, Int.reduceNeg, reduceCtorEq, Option.bind_some, Option.map_some, List.length_cons, List.length_nil, vcM, List.getElem?_toArray, List.getElem?_cons_zero, List.getElem?_cons_succ]) | skip
  clear hx hO hn1
  have lit : ∀ (wz : World) (bs : List Int), bs.length ≤ 10 → Rd (wz.alloc (.cells (bv bs).toArray 5)) (.slice (some ⟨wz.heap.size, 0, none⟩) bs.length bs.length) bs := fun wz bs h => (own_lit1 (w := wz) (bs := bs) (by have : maxLen = 9223372036854775807 := rfl; omega)).rd
  have lit' : ∀ (wz : World) (o : Obj) (bs : List Int), bs.length ≤ 10 → Rd ((wz.alloc o).alloc (.cells (bv bs).toArray 5)) (.slice (some ⟨wz.heap.size + 1, 0, none⟩) bs.length bs.length) bs := fun wz o bs h => by
    have := lit (wz.alloc o) bs h
    rw [size_alloc] at this
    exact this
  have lE : ∀ (wz : World) (bs : List Int), Ext wz (wz.alloc (.cells (bv bs).toArray 5)) := fun wz bs => (Keep.refl _ wz).alloc _
  have hone : ∀ {wz : World} {v : Value} {a : List Int}, Rd wz v a → v.cells = #[v] := fun h => by
    obtain ⟨q, c, rfl, _⟩ := h.eq; rfl
  -- a key's hash
  (refine W_at c20_ok ?_; refine ⟨_, rfl, ?_⟩; simp (disch := first | omega | assumption | rfl | (simp only [vcS] <;> omega) | fail) only [↓ptV_l, ↓vcA, vcB, ↓vcD, vcE, ↓reduceIte, Nat.reduceEqDiff, Nat.reduceAdd, Nat.reduceMul, Nat.reduceLeDiff, Int.reduceLE, Int.reduceLT, Int.reduceEq, Int.reduceToNat, Int.reduceAdd, Int.reduceSub, Int.reduceMul, Int.reduceNeg, reduceCtorEq, Option.bind_some, Option.map_some, List.length_cons, List.length_nil, vcM, List.getElem?_toArray, List.getElem?_cons_zero, List.getElem?_cons_succ])
  refine callV_ret (between_ok ((w1.alloc (.cells (bv [118, 169, 20]).toArray 5)).alloc (.cells (bv [136, 172]).toArray 5)) y _ _ s [118, 169, 20] [136, 172] 20 (hy.ext ((lE _ _).ext (lE _ _))) ((lit w1 [118, 169, 20] (by simp)).ext (lE _ _)) (lit' _ _ [136, 172] (by simp)) hb (by intro z hz; simp at hz; omega) (by intro z hz; simp at hz; omega) (by omega)) ?_
  rintro _ w2 ⟨h, ok, rfl, hbet, hw2⟩
  have hE2 : Ext w1 w2 := by rw [hw2]; exact (lE _ _).ext (lE _ _)
  clear hw2
  simp (disch := first | omega | assumption | rfl | (simp only [vcS] <;> omega) | fail) only [↓ptV_l, ↓vcA, vcB, ↓vcD, vcE, ↓reduceIte, Nat.reduceEqDiff, Nat.reduceAdd, Nat.reduceMul, Nat.reduceLeDiff, Int.reduceLE, Int.reduceLT, Int.reduceEq, Int.reduceToNat, Int.reduceAdd, Int.reduceSub, Int.reduceMul, Int.reduceNeg, reduceCtorEq, Option.bind_some, Option.map_some, List.length_cons, List.length_nil, vcM, List.getElem?_toArray, List.getElem?_cons_zero, List.getElem?_cons_succ]
  (refine W_at c20_ok ?_; refine ⟨_, rfl, ?_⟩; simp (disch := first | omega | assumption | rfl | (simp only [vcS] <;> omega) | fail) only [↓ptV_l, ↓vcA, vcB, ↓vcD, vcE, ↓reduceIte, Nat.reduceEqDiff, Nat.reduceAdd, Nat.reduceMul, Nat.reduceLeDiff, Int.reduceLE, Int.reduceLT, Int.reduceEq, Int.reduceToNat, Int.reduceAdd, Int.reduceSub, Int.reduceMul, Int.reduceNeg, reduceCtorEq, Option.bind_some, Option.map_some, List.length_cons, List.length_nil, vcM, List.getElem?_toArray, List.getElem?_cons_zero, List.getElem?_cons_succ])
  rw [hB1] at hbet
  have hok : ok = false := hbet
  subst hok
  (refine W_at c20_ok ?_; refine ⟨_, rfl, ?_⟩; simp (disch := first | omega | assumption | rfl | (simp only [vcS] <;> omega) | fail) only [↓ptV_l, ↓vcA, vcB, ↓vcD, vcE, ↓reduceIte, Nat.reduceEqDiff, Nat.reduceAdd, Nat.reduceMul, Nat.reduceLeDiff, Int.reduceLE, Int.reduceLT, Int.reduceEq, Int.reduceToNat, Int.reduceAdd, Int.reduceSub, Int.reduceMul, Int.reduceNeg, reduceCtorEq, Option.bind_some, Option.map_some, List.length_cons, List.length_nil, vcM, List.getElem?_toArray, List.getElem?_cons_zero, List.getElem?_cons_succ])
  -- a script's hash
  (refine W_at c20_ok ?_; refine ⟨_, rfl, ?_⟩; simp (disch := first | omega | assumption | rfl | (simp only [vcS] <;> omega) | fail) only [↓ptV_l, ↓vcA, vcB, ↓vcD, vcE, ↓reduceIte, Nat.reduceEqDiff, Nat.reduceAdd, Nat.reduceMul, Nat.reduceLeDiff, Int.reduceLE, Int.reduceLT, Int.reduceEq, Int.reduceToNat, Int.reduceAdd, Int.reduceSub, Int.reduceMul, Int.reduceNeg, reduceCtorEq, Option.bind_some, Option.map_some, List.length_cons, List.length_nil, vcM, List.getElem?_toArray, List.getElem?_cons_zero, List.getElem?_cons_succ])
  refine callV_ret (between_ok ((w2.alloc (.cells (bv [169, 20]).toArray 5)).alloc (.cells (bv [135]).toArray 5)) y _ _ s [169, 20] [135] 20 (hy.ext (hE2.ext ((lE _ _).ext (lE _ _)))) ((lit w2 [169, 20] (by simp)).ext (lE _ _)) (lit' _ _ [135] (by simp)) hb (by intro z hz; simp at hz; omega) (by intro z hz; simp at hz; omega) (by omega)) ?_
  rintro _ w3 ⟨h2, ok2, rfl, hbet2, hw3⟩
  have hE3 : Ext w1 w3 := by rw [hw3]; exact hE2.ext ((lE _ _).ext (lE _ _))
  clear hw3 hE2
  simp (disch := first | omega | assumption | rfl | (simp only [vcS] <;> omega) | fail) only [↓ptV_l, ↓vcA, vcB, ↓vcD, vcE, ↓reduceIte, Nat.reduceEqDiff, Nat.reduceAdd, Nat.reduceMul, Nat.reduceLeDiff, Int.reduceLE, Int.reduceLT, Int.reduceEq, Int.reduceToNat, Int.reduceAdd, Int.reduceSub, Int.reduceMul, Int.reduceNeg, reduceCtorEq, Option.bind_some, Option.map_some, List.length_cons, List.length_nil, vcM, List.getElem?_toArray, List.getElem?_cons_zero, List.getElem?_cons_succ]
  (refine W_at c20_ok ?_; refine ⟨_, rfl, ?_⟩; simp (disch := first | omega | assumption | rfl | (simp only [vcS] <;> omega) | fail) only [↓ptV_l, ↓vcA, vcB, ↓vcD, vcE, ↓reduceIte, Nat.reduceEqDiff, Nat.reduceAdd, Nat.reduceMul, Nat.reduceLeDiff, Int.reduceLE, Int.reduceLT, Int.reduceEq, Int.reduceToNat, Int.reduceAdd, Int.reduceSub, Int.reduceMul, Int.reduceNeg, reduceCtorEq, Option.bind_some, Option.map_some, List.length_cons, List.length_nil, vcM, List.getElem?_toArray, List.getElem?_cons_zero, List.getElem?_cons_succ])
  rw [hB2] at hbet2
  have hok2 : ok2 = false := hbet2
  subst hok2
  (refine W_at c20_ok ?_; refine ⟨_, rfl, ?_⟩; simp (disch := first | omega | assumption | rfl | (simp only [vcS] <;> omega) | fail) only [↓ptV_l, ↓vcA, vcB, ↓vcD, vcE, ↓reduceIte, Nat.reduceEqDiff, Nat.reduceAdd, Nat.reduceMul, Nat.reduceLeDiff, Int.reduceLE, Int.reduceLT, Int.reduceEq, Int.reduceToNat, Int.reduceAdd, Int.reduceSub, Int.reduceMul, Int.reduceNeg, reduceCtorEq, Option.bind_some, Option.map_some, List.length_cons, List.length_nil, vcM, List.getElem?_toArray, List.getElem?_cons_zero, List.getElem?_cons_succ])
  -- a program
  (refine W_at c20_ok ?_; refine ⟨_, rfl, ?_⟩; simp (disch := first | omega | assumption | rfl | (simp only [vcS] <;> omega) | fail) only [↓ptV_l, ↓vcA, vcB, ↓vcD, vcE, ↓reduceIte, Nat.reduceEqDiff, Nat.reduceAdd, Nat.reduceMul, Nat.reduceLeDiff, Int.reduceLE, Int.reduceLT, Int.reduceEq, Int.reduceToNat, Int.reduceAdd, Int.reduceSub, Int.reduceMul, Int.reduceNeg, reduceCtorEq, Option.bind_some, Option.map_some, List.length_cons, List.length_nil, vcM, List.getElem?_toArray, List.getElem?_cons_zero, List.getElem?_cons_succ])
  refine callV_ret (program_ok w3 y s (hy.ext hE3) hb (by omega)) ?_
  rintro _ w4 ⟨v, d, ok3, rfl, hE4, hpr⟩
  have hE14 := hE3.ext hE4
  simp (disch := first | omega | assumption | rfl | (simp only [vcS] <;> omega) | fail) only [↓ptV_l, ↓vcA, vcB, ↓vcD, vcE, ↓reduceIte, Nat.reduceEqDiff, Nat.reduceAdd, Nat.reduceMul, Nat.reduceLeDiff, Int.reduceLE, Int.reduceLT, Int.reduceEq, Int.reduceToNat, Int.reduceAdd, Int.reduceSub, Int.reduceMul, Int.reduceNeg, reduceCtorEq, Option.bind_some, Option.map_some, List.length_cons, List.length_nil, vcM, List.getElem?_toArray, List.getElem?_cons_zero, List.getElem?_cons_succ]
  (refine W_at c20_ok ?_; refine ⟨_, rfl, ?_⟩; simp (disch := first | omega | assumption | rfl | (simp only [vcS] <;> omega) | fail) only [↓ptV_l, ↓vcA, vcB, ↓vcD, vcE, ↓reduceIte, Nat.reduceEqDiff, Nat.reduceAdd, Nat.reduceMul, Nat.reduceLeDiff, Int.reduceLE, Int.reduceLT, Int.reduceEq, Int.reduceToNat, Int.reduceAdd, Int.reduceSub, Int.reduceMul, Int.reduceNeg, reduceCtorEq, Option.bind_some, Option.map_some, List.length_cons, List.length_nil, vcM, List.getElem?_toArray, List.getElem?_cons_zero, List.getElem?_cons_succ])
  rw [hB3] at hpr
  obtain ⟨rfl, rfl, rfl⟩ := hpr
  (refine W_at c20_ok ?_; refine ⟨_, rfl, ?_⟩; simp (disch := first | omega | assumption | rfl | (simp only [vcS] <;> omega) | fail) only [↓ptV_l, ↓vcA, vcB, ↓vcD, vcE, ↓reduceIte, Nat.reduceEqDiff, Nat.reduceAdd, Nat.reduceMul, Nat.reduceLeDiff, Int.reduceLE, Int.reduceLT, Int.reduceEq, Int.reduceToNat, Int.reduceAdd, Int.reduceSub, Int.reduceMul, Int.reduceNeg, reduceCtorEq, Option.bind_some, Option.map_some, List.length_cons, List.length_nil, vcM, List.getElem?_toArray, List.getElem?_cons_zero, List.getElem?_cons_succ])
  (refine W_at c20_ok ?_; refine ⟨_, rfl, ?_⟩; simp (disch := first | omega | assumption | rfl | (simp only [vcS] <;> omega) | fail) only [↓ptV_l, ↓vcA, vcB, ↓vcD, vcE, ↓reduceIte, Nat.reduceEqDiff, Nat.reduceAdd, Nat.reduceMul, Nat.reduceLeDiff, Int.reduceLE, Int.reduceLT, Int.reduceEq, Int.reduceToNat, Int.reduceAdd, Int.reduceSub, Int.reduceMul, Int.reduceNeg, reduceCtorEq, Option.bind_some, Option.map_some, List.length_cons, List.length_nil, vcM, List.getElem?_toArray, List.getElem?_cons_zero, List.getElem?_cons_succ])
  refine callV_ret (multi_ok w4 y s (hy.ext hE14) hb hl) ?_
  rintro vm w5 ⟨hE5, hmm⟩
  have hE15 := hE14.ext hE5
  rw [hM] at hmm
  obtain ⟨ts, hts, hPm⟩ := hmm
  have hne : ∃ g c, vm = .slice (some g) ts.length c := by
    rcases hPm.row.2 with ⟨e, h0⟩ | ⟨g, cap, cur, e, _⟩
    · exfalso
      have : ts = [] := List.eq_nil_of_length_eq_zero h0
      rw [this] at hts
      rw [← hts] at hM
      unfold multiF at hM
      split at hM
      · cases hM
      · split at hM
        · cases hM
        · cases hM
    · exact ⟨_, _, e⟩
  obtain ⟨gm, cm, rfl⟩ := hne
  first | (simp (disch := first | omega | assumption | rfl | (simp only [vcS] <;> omega) | fail) only [↓ptV_l, ↓vcA, vcB, ↓vcD, vcE, ↓reduceIte, Nat.reduceEqDiff, Nat.reduceAdd, Nat.reduceMul, Nat.reduceLeDiff, Int.reduceLE, Int.reduceLT, Int.reduceEq, Int.reduceToNat, Int.reduceAdd, Int.reduceSub, Int.reduceMul, Int.reduceNeg, reduceCtorEq, Option.bind_some, Option.map_some, List.length_cons, List.length_nil, vcM, List.getElem?_toArray, List.getElem?_cons_zero, List.getElem?_cons_succ]) | skip
  (refine W_at c20_ok ?_; refine ⟨_, rfl, ?_⟩; simp (disch := first | omega | assumption | rfl | (simp only [vcS] <;> omega) | fail) only [↓ptV_l, ↓vcA, vcB, ↓vcD, vcE, ↓reduceIte, Nat.reduceEqDiff, Nat.reduceAdd, Nat.reduceMul, Nat.reduceLeDiff, Int.reduceLE, Int.reduceLT, Int.reduceEq, Int.reduceToNat, Int.reduceAdd, Int.reduceSub, Int.reduceMul, Int.reduceNeg, reduceCtorEq, Option.bind_some, Option.map_some, List.length_cons, List.length_nil, vcM, List.getElem?_toArray, List.getElem?_cons_zero, List.getElem?_cons_succ])
  (refine W_at c20_ok ?_; refine ⟨_, rfl, ?_⟩; simp (disch := first | omega | assumption | rfl | (simp only [vcS] <;> omega) | fail) only [↓ptV_l, ↓vcA, vcB, ↓vcD, vcE, ↓reduceIte, Nat.reduceEqDiff, Nat.reduceAdd, Nat.reduceMul, Nat.reduceLeDiff, Int.reduceLE, Int.reduceLT, Int.reduceEq, Int.reduceToNat, Int.reduceAdd, Int.reduceSub, Int.reduceMul, Int.reduceNeg, reduceCtorEq, Option.bind_some, Option.map_some, List.length_cons, List.length_nil, vcM, List.getElem?_toArray, List.getElem?_cons_zero, List.getElem?_cons_succ])
  (refine W_at c20_ok ?_; refine ⟨_, rfl, ?_⟩; simp (disch := first | omega | assumption | rfl | (simp only [vcS] <;> omega) | fail) only [↓ptV_l, ↓vcA, vcB, ↓vcD, vcE, ↓reduceIte, Nat.reduceEqDiff, Nat.reduceAdd, Nat.reduceMul, Nat.reduceLeDiff, Int.reduceLE, Int.reduceLT, Int.reduceEq, Int.reduceToNat, Int.reduceAdd, Int.reduceSub, Int.reduceMul, Int.reduceNeg, reduceCtorEq, Option.bind_some, Option.map_some, List.length_cons, List.length_nil, vcM, List.getElem?_toArray, List.getElem?_cons_zero, List.getElem?_cons_succ])
  (refine W_at c20_ok ?_; refine ⟨_, rfl, ?_⟩; simp (disch := first | omega | assumption | rfl | (simp only [vcS] <;> omega) | fail) only [↓ptV_l, ↓vcA, vcB, ↓vcD, vcE, ↓reduceIte, Nat.reduceEqDiff, Nat.reduceAdd, Nat.reduceMul, Nat.reduceLeDiff, Int.reduceLE, Int.reduceLT, Int.reduceEq, Int.reduceToNat, Int.reduceAdd, Int.reduceSub, Int.reduceMul, Int.reduceNeg, reduceCtorEq, Option.bind_some, Option.map_some, List.length_cons, List.length_nil, vcM, List.getElem?_toArray, List.getElem?_cons_zero, List.getElem?_cons_succ, Ret_returned])
  have hpp := hPm.parts
  rw [hts] at hpp
  exact ⟨_, rfl, hpp, hE1.ext hE15⟩
/-- 'append' of lists. -/
theorem PtsAt.app {m m2 : Nat} {w : World} {v x : Value} {ts ts2 : List PE} {K : Value → World → Prop} (h : PtsAt m w v ts) (hx : PtsAt m2 w x ts2) (hm : m ≤ w.heap.size) (hlen : ts.length + ts2.length ≤ 1000000)
    (hk : ∀ v' w', PartsAt w' v' ((ts ++ ts2).map (·.1)) → Keep (blk v) w w' → K v' w') : appV 22 1 24 [.slice none 0 0] v x w K := by
  have hml : maxLen = 9223372036854775807 := rfl
  obtain ⟨q, d, e⟩ : ∃ q d, x = .slice q ts2.length d := by
    rcases hx.row.2 with ⟨e, hn⟩ | ⟨g, cap, cur, e, _⟩
    · rw [hn]; exact ⟨_, _, e⟩
    · exact ⟨_, _, e⟩
  have hone : ∀ t ∈ ts2, t.2.oneCell' = true := fun t ht => (hx.own t ht).1.rd.one
  refine appV_own3 h.row e (rdS_own hx.row) (by intro z hz; simp at hz; obtain ⟨a, b⟩ := hz; exact hone _ b) (by omega) (by omega) rfl hm (by omega) fun v' w' h1 hg _ => ?_
  have h2 : Keep (blk v) w w' := (Keep.refl _ w).grown hg fun k _ h => h
  refine hk v' w' ⟨(ts ++ ts2).map (·.2), ?_, by simp, ?_, fun i hi hi' => ?_⟩ h2
  · rw [rdS_own h1]; simp
  · rcases h1.2 with ⟨e, hn⟩ | ⟨g, cap, cur, e, _⟩
    · rw [List.length_map, List.length_append, hn]; exact ⟨_, _, e⟩
    · rw [List.length_map, List.length_append]; exact ⟨_, _, e⟩
  · have hi2 : i < (ts ++ ts2).length := by simpa using hi
    have hown : ∀ t ∈ ts ++ ts2, Own1 w t.2 t.1 := fun t ht => by
      rcases List.mem_append.1 ht with ht | ht
      · exact (h.own t ht).1
      · exact (hx.own t ht).1
    have ho := hown _ (List.getElem_mem hi2)
    have := (ho.keep h2 fun g hg hv => by
      obtain ⟨c1, e1⟩ := row_type ho hg
      obtain ⟨c2, e2⟩ := row_type h.row hv
      rw [e1] at e2; cases e2).rd
    simp only [List.getElem_map]
    exact this
/-! What is made is known. -/
def keyL (ks : List (List Int)) : List Int := ks.flatMap (33 :: ·)
theorem keyL_len : ∀ {ks : List (List Int)}, (∀ k ∈ ks, k.length = 33) → (keyL ks).length = 34 * ks.length
  | [], _ => rfl
  | a :: l, h => by
    have := keyL_len (ks := l) fun k hk => h k (by simp [hk])
    rw [keyL] at this ⊢
    rw [List.flatMap_cons, List.length_append, List.length_cons, this, h a (by simp), List.length_cons]; omega
theorem piece_key : ∀ {ks : List (List Int)} (i : Nat), (∀ k ∈ ks, k.length = 33) → (h : i < ks.length) → pieceF (keyL ks) i = 33 :: ks[i]
  | a :: l, 0, h, _ => by
    have ha : a.length = 33 := h a (by simp)
    rw [pieceF, keyL, List.flatMap_cons]
    simp only [Nat.mul_zero, Nat.zero_add, List.drop_zero, List.getElem_cons_zero]
    rw [List.take_append_of_le_length (by rw [List.length_cons]; omega), List.take_of_length_le (by rw [List.length_cons]; omega)]
  | a :: l, i + 1, h, hi => by
    have ha : a.length = 33 := h a (by simp)
    have ih := piece_key (ks := l) i (fun k hk => h k (by simp [hk])) (by simpa using hi)
    rw [pieceF] at ih
    rw [pieceF, keyL, List.flatMap_cons]
    have e1 : 34 * (i + 1) = (33 :: a).length + 34 * i := by rw [List.length_cons]; omega
    have e2 : 34 * (i + 1) + 34 = (33 :: a).length + (34 * i + 34) := by rw [List.length_cons]; omega
    rw [e2, e1, List.take_length_add_append, List.drop_length_add_append, List.getElem_cons_succ]
    exact ih
theorem multi_pm {m : Int} {ks : List (List Int)} (hm : 1 ≤ m) (hmn : m ≤ ks.length) (hn : ks.length ≤ 16) (hk : ∀ k ∈ ks, k.length = 33) : multiF (pmB m ks) = some ([m] :: ks) := by
  have hs : pmB m ks = (80 + m) :: (keyL ks ++ [80 + (ks.length : Int), 174]) := rfl
  have hkl := keyL_len hk
  have hl : (pmB m ks).length = 34 * ks.length + 3 := by rw [hs, List.length_cons, List.length_append, hkl]; rfl
  have h1 : (pmB m ks).getLast? = some 174 := by
    rw [hs, List.getLast?_cons, List.getLast?_append]; rfl
  have h2 : (pmB m ks).headD 0 = 80 + m := rfl
  have h3 : (pmB m ks).getD ((pmB m ks).length - 2) 0 = 80 + (ks.length : Int) := by
    have e : (pmB m ks).length - 2 = (keyL ks).length + 1 := by omega
    rw [List.getD_eq_getElem?_getD, e, hs, List.getElem?_cons_succ, List.getElem?_append_right (Nat.le_refl _), Nat.sub_self]
    rfl
  have h4 : ((pmB m ks).take ((pmB m ks).length - 2)).drop 1 = keyL ks := by
    have e : (pmB m ks).length - 2 = (keyL ks).length + 1 := by omega
    rw [e, hs, List.take_succ_cons, List.drop_succ_cons, List.drop_zero, List.take_left]
  have h5 : smallF (80 + m) = m := by unfold smallF; rw [if_neg (by omega), if_pos (by omega)]; omega
  have h6 : smallF (80 + (ks.length : Int)) = ks.length := by unfold smallF; rw [if_neg (by omega), if_pos (by omega)]; omega
  rw [multiF, if_neg (by rw [hl, h1]; simp), h2, h3, h4, h5, h6, Int.toNat_natCast, if_neg]
  · congr 2
    apply List.ext_getElem
    · simp
    · intro i h1 h2
      have hi : i < ks.length := by simpa using h1
      rw [List.getElem_map, List.getElem_range, piece_key i hk hi]; rfl
  · rintro (h | h | h | h)
    · omega
    · omega
    · omega
    · have : headOK (keyL ks) ks.length = true := by
        rw [headOK, List.all_eq_true]
        intro i hi
        have hi' : i < ks.length := by simpa using hi
        rw [piece_key i hk hi']; rfl
      rw [this] at h; cases h
theorem bet_pm {m : Int} {ks : List (List Int)} (t r : List Int) (n : Nat) (c : Int) (hm : 80 + m ≠ c) : betF (pmB m ks) (c :: t) r n = none := by
  have : preB (pmB m ks) (c :: t) = false := by
    rw [preB]
    apply decide_eq_false
    rintro ⟨_, h⟩
    rw [List.length_cons, pmB, List.cons_append, List.take_succ_cons] at h
    injection h with h _
    exact hm h
  rw [betF, this]; rfl
theorem prog_pm {m : Int} {ks : List (List Int)} (hn : 1 ≤ ks.length) (hk : ∀ k ∈ ks, k.length = 33) : progF (pmB m ks) = none := by
  cases ks with
  | nil => simp at hn
  | cons a l =>
    have ha : a.length = 33 := hk a (by simp)
    have hs : pmB m (a :: l) = (80 + m) :: 33 :: (a ++ (l.flatMap (33 :: ·)) ++ [80 + ((a :: l).length : Int), 174]) := by
      rw [pmB, List.flatMap_cons]; simp
    rw [hs, progF, if_neg]
    rintro ⟨h1, h2, _, h3⟩
    rw [List.length_append, List.length_append, ha] at h3
    simp only [List.length_cons, List.length_nil] at h3
    omega
theorem byt_pm {m : Int} {ks : List (List Int)} (hm : 1 ≤ m) (hmn : m ≤ ks.length) (hn : ks.length ≤ 16) (hb : ∀ k ∈ ks, byt k) : byt (pmB m ks) := by
  intro z hz
  rw [pmB] at hz
  simp only [List.cons_append, List.mem_cons, List.mem_append, List.mem_flatMap, List.not_mem_nil, or_false] at hz
  rcases hz with rfl | ⟨k, hk, rfl | hz⟩ | rfl | rfl
  · omega
  · omega
  · exact hb k hk z hz
  · omega
  · omega
end Go.Proofs
