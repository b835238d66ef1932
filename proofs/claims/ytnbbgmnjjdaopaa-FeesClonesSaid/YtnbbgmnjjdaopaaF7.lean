/- The document's Block. -/
import Derived.Test.YtnbbgmnjjdaopaaF6
set_option linter.unusedSimpArgs false
set_option linter.unusedVariables false
set_option linter.constructorNameAsVariable false
namespace Go.Proofs
open Go.Vc Go.Proofs.Fees
set_option maxRecDepth 10000

def pq (a b : Nat) (rc : List Int) : List Int := pf a (rc.take 24) ++ pf b (rc.drop 24)
theorem pq_zero (rc : List Int) : pq 0 0 rc = rc := by simp [pq, pf_zero]
theorem pq_all {rc : List Int} (h : rc.length = 312) : pq 24 288 rc = rc.map fadeF := by
  rw [pq, pf_all (by simp [h]), pf_all (by simp [h]), ← List.map_append, List.take_append_drop]
theorem pq_len {a b : Nat} {rc : List Int} (h : rc.length = 312) : (pq a b rc).length = 312 := by simp [pq, pf_len, h]
theorem take_getD {rc : List Int} {n i : Nat} (h : i < n) : (rc.take n).getD i 0 = rc.getD i 0 := by
  simp [List.getD_eq_getElem?_getD, List.getElem?_take, h]
theorem drop_getD {rc : List Int} {n i : Nat} : (rc.drop n).getD i 0 = rc.getD (n + i) 0 := by
  simp [List.getD_eq_getElem?_getD]
theorem pq_getA {a b : Nat} {rc : List Int} (h : rc.length = 312) (ha : a < 24) : (pq a b rc).getD a 0 = rc.getD a 0 := by
  have hl : (pf a (rc.take 24)).length = 24 := by simp [pf_len, h]
  rw [pq, List.getD_eq_getElem?_getD, List.getElem?_append_left (by omega), ← List.getD_eq_getElem?_getD, pf_getD (Nat.le_refl _) (by simp; omega), take_getD ha]
theorem pq_getB {a b : Nat} {rc : List Int} (h : rc.length = 312) (hb : b < 288) : (pq a b rc).getD (24 + b) 0 = rc.getD (24 + b) 0 := by
  have hl : (pf a (rc.take 24)).length = 24 := by simp [pf_len, h]
  rw [pq, List.getD_eq_getElem?_getD, List.getElem?_append_right (by omega), hl, Nat.add_sub_cancel_left, ← List.getD_eq_getElem?_getD, pf_getD (Nat.le_refl _) (by simp; omega), drop_getD]
theorem pq_setA {a b : Nat} {rc : List Int} (h : rc.length = 312) (ha : a < 24) : (pq a b rc).set a (fadeF (rc.getD a 0)) = pq (a + 1) b rc := by
  have hl : (pf a (rc.take 24)).length = 24 := by simp [pf_len, h]
  rw [pq, List.set_append, if_pos (by omega), ← take_getD ha, pf_set (by simp; omega), pq]
theorem pq_setB {a b : Nat} {rc : List Int} (h : rc.length = 312) (hb : b < 288) : (pq a b rc).set (24 + b) (fadeF (rc.getD (24 + b) 0)) = pq a (b + 1) rc := by
  have hl : (pf a (rc.take 24)).length = 24 := by simp [pf_len, h]
  rw [pq, List.set_append, if_neg (by omega), hl, Nat.add_sub_cancel_left, ← drop_getD, pf_set (by simp; omega), pq]

structure RB (w w1 : World) (p q : Nat) (rc : List Int) (v : Value) (ws : List WE) (vi : Value) (ids : List (Array Value)) : Prop where
  hp : w.heap.size ≤ p
  hq : w.heap.size ≤ q
  ne : p ≠ q
  at' : w1.heap[p]? = some (.cells (refC rc v) 31 (0, 0))
  len : rc.length = 312
  zer : w1.heap[q]? = some (.cells (zc [(312, Value.int IntKind.i64 0), (1, Value.slice none 0 0)]) 31 (0, 0))
  row : WRow w1 v ws
  ids' : IdsAt 47 w1 vi ids
  ext : Ext w w1

theorem row_type {w : World} {base el size n : Nat} {v : Value} {xs : List Value} (h : w.ownsRow base el size v n xs) {g : Nat} (hg : v.ownBlock = some g) : ∃ cur, w.heap[g]? = some (.cells cur el (0, 0)) := by
  obtain ⟨_, ⟨rfl, _⟩ | ⟨g', cap, cur, rfl, hbg, hh, _⟩⟩ := h
  · cases hg
  · cases hg; exact ⟨cur, hh⟩
theorem Fees.IdsAt.keep {S : Nat → Prop} {w w' : World} {el : TypeId} {v : Value} {ids : List (Array Value)} (h : IdsAt el w v ids) (k : Keep S w w') (hS : ∀ g cur, w.heap[g]? = some (.cells cur el (0, 0)) → ¬ S g) : IdsAt el w' v ids := by
  obtain ⟨⟨base, h⟩, hk⟩ := h
  exact ⟨⟨base, ownsRow_keep h k fun b hb => by obtain ⟨cur, hc⟩ := row_type h hb; exact hS b cur hc⟩, hk⟩

theorem RB.mono {w w1 w2 : World} {p q : Nat} {rc : List Int} {v : Value} {ws : List WE} {vi : Value} {ids : List (Array Value)} (h : RB w w1 p q rc v ws vi ids) (k : Ext w1 w2) : RB w w2 p q rc v ws vi ids :=
  ⟨h.hp, h.hq, h.ne, k.at h.at' fun h => h, h.len, k.at h.zer fun h => h, h.row.keep k fun _ _ h => h, Fees.IdsAt.keep h.ids' k fun _ _ _ h => h, h.ext.ext k⟩
theorem RB.drew {w w1 : World} {p q : Nat} {rc : List Int} {v : Value} {ws : List WE} {vi : Value} {ids : List (Array Value)} (h : RB w w1 p q rc v ws vi ids) : RB w w1.drew p q rc v ws vi ids :=
  h.mono ((Keep.refl _ w1).drew)
theorem RB.over {w w1 w2 : World} {p q : Nat} {rc rc' : List Int} {v v' : Value} {ws ws' : List WE} {vi : Value} {ids : List (Array Value)} (h : RB w w1 p q rc v ws vi ids) (k : Keep (fun i => i = p) w1 w2)
    (hat : w2.heap[p]? = some (.cells (refC rc' v') 31 (0, 0))) (hl : rc'.length = 312) (hr : WRow w1 v' ws') : RB w w2 p q rc' v' ws' vi ids := by
  refine ⟨h.hp, h.hq, h.ne, hat, hl, k.at h.zer (fun e => h.ne e.symm), hr.keep k ?_, Fees.IdsAt.keep h.ids' k ?_, h.ext.trans k fun i hi (e : i = p) => ?_⟩
  · rintro b hb rfl
    obtain ⟨cur, hc⟩ := row_type hr.1 hb
    rw [h.at'] at hc; cases hc
  · rintro g cur hc rfl
    rw [h.at'] at hc; cases hc
  · have := h.hp; omega
theorem RB.set {w w1 : World} {p q : Nat} {rc : List Int} {v : Value} {ws : List WE} {vi : Value} {ids : List (Array Value)} (h : RB w w1 p q rc v ws vi ids) {i : Nat} (hi : i < 312) (x : Int) :
    RB w (w1.setCell ⟨p, i, none⟩ (.int .i64 x)) p q (rc.set i x) v ws vi ids :=
  h.over ((Keep.refl _ w1).setCell _ fun _ => rfl) (by rw [heap_setCell_eq h.at', refC_set (by rw [h.len]; exact hi)]) (by simp [h.len]) h.row
theorem RB.wr {w w1 : World} {p q : Nat} {rc : List Int} {v : Value} {ws : List WE} {vi : Value} {ids : List (Array Value)} (h : RB w w1 p q rc v ws vi ids) {i : Nat} (hi : i < 313) : wr1 w1 p i :=
  wr1_of h.at' (by rw [size_refC, h.len]; exact hi)
theorem RB.put {w w1 : World} {p q : Nat} {rc : List Int} {v v' : Value} {ws ws' : List WE} {vi : Value} {ids : List (Array Value)} (h : RB w w1 p q rc v ws vi ids) (hr : WRow w1 v' ws') :
    RB w (w1.putN p 0 (refC rc v')) p q rc v' ws' vi ids :=
  h.over ((Keep.refl _ w1).putN _ fun _ => rfl) (by rw [heap_putN_eq h.at', splice_all (by simp only [size_refC])]) h.len hr

theorem rblockA (w w0 : World) (p q : Nat) (rc : List Int) (v : Value) (ws : List WE) (vi : Value) (ids : List (Array Value)) (h : Int) (hb : RB w w0 p q rc v ws vi ids) (R : Ending → World → Prop)
    (hend : ∀ (w1 : World) (tl : Env), RB w w1 p q (rc.map fadeF) v ws vi ids → W Try.prog R 25 22 ((1, .int .i64 h) :: (2, vi) :: (3, .pointer (some ⟨p, 0, none⟩)) :: (6, .pointer (some ⟨q, 0, none⟩)) :: tl) w1) :
    W Try.prog R 25 33 [(1, .int .i64 h), (2, vi), (3, .pointer (some ⟨p, 0, none⟩)), (6, .pointer (some ⟨q, 0, none⟩)), (7, .int .i64 0)] w0 := by
  have hl := hb.len
  have H : ∀ (n k : Nat) (w1 : World), n + k = 24 → RB w w1 p q (pq k (k * 12) rc) v ws vi ids →
      W Try.prog R 25 33 [(1, .int .i64 h), (2, vi), (3, .pointer (some ⟨p, 0, none⟩)), (6, .pointer (some ⟨q, 0, none⟩)), (7, .int .i64 k)] w1 := by
    intro n
    induction n with
    | zero =>
      intro k w1 hk hb1
      have hk' : ¬ ((k : Int) < 24) := by omega
      have hk24 : k = 24 := by omega
      subst hk24
      (refine W_at c25_ok ?_; refine ⟨_, rfl, ?_⟩; simp (disch := first | omega | assumption | rfl | (simp only [vcS] <;> omega) | fail) only [↓ptV_l, ↓vcA, vcB, ↓vcD, vcE, ↓reduceIte, Nat.reduceEqDiff, Nat.reduceAdd, Nat.reduceMul, Nat.reduceLeDiff, Int.reduceLE, Int.reduceLT, Int.reduceEq, Int.reduceToNat, Int.reduceAdd, Int.reduceSub, Int.reduceMul, Int.reduceNeg, reduceCtorEq, Option.bind_some, Option.map_some, List.length_cons, List.length_nil, vcM, List.getElem?_toArray, List.getElem?_cons_zero, List.getElem?_cons_succ, hk'])
      (refine W_at c25_ok ?_; refine ⟨_, rfl, ?_⟩; simp (disch := first | omega | assumption | rfl | (simp only [vcS] <;> omega) | fail) only [↓ptV_l, ↓vcA, vcB, ↓vcD, vcE, ↓reduceIte, Nat.reduceEqDiff, Nat.reduceAdd, Nat.reduceMul, Nat.reduceLeDiff, Int.reduceLE, Int.reduceLT, Int.reduceEq, Int.reduceToNat, Int.reduceAdd, Int.reduceSub, Int.reduceMul, Int.reduceNeg, reduceCtorEq, Option.bind_some, Option.map_some, List.length_cons, List.length_nil, vcM, List.getElem?_toArray, List.getElem?_cons_zero, List.getElem?_cons_succ])
      exact hend _ _ (by rw [← pq_all hl]; exact hb1)
    | succ n ih =>
      intro k w1 hk hb1
      have hk' : (k : Int) < 24 := by omega
      have hk2 : 0 ≤ (k : Int) ∧ (k : Int) < 24 := by omega
      have hbb := hb1.at'
      have hlp := hb1.len
      have h1 : (refC (pq k (k * 12) rc) v)[k]? = some (.int .i64 (rc.getD k 0)) := by rw [refC_int (by omega), pq_getA hl (by omega)]
      have hwr := hb1.wr (i := k) (by omega)
      have hb2 := hb1.set (i := k) (by omega) (fadeF (rc.getD k 0))
      rw [pq_setA hl (by omega)] at hb2
      unfold fadeF at hb2
      (refine W_at c25_ok ?_; refine ⟨_, rfl, ?_⟩; simp (disch := first | omega | assumption | rfl | (simp only [vcS] <;> omega) | fail) only [↓ptV_l, ↓vcA, vcB, ↓vcD, vcE, ↓reduceIte, Nat.reduceEqDiff, Nat.reduceAdd, Nat.reduceMul, Nat.reduceLeDiff, Int.reduceLE, Int.reduceLT, Int.reduceEq, Int.reduceToNat, Int.reduceAdd, Int.reduceSub, Int.reduceMul, Int.reduceNeg, reduceCtorEq, Option.bind_some, Option.map_some, List.length_cons, List.length_nil, vcM, List.getElem?_toArray, List.getElem?_cons_zero, List.getElem?_cons_succ, hk'])
      (refine W_at c25_ok ?_; refine ⟨_, rfl, ?_⟩; simp (disch := first | omega | assumption | rfl | (simp only [vcS] <;> omega) | fail) only [↓ptV_l, ↓vcA, vcB, ↓vcD, vcE, ↓reduceIte, Nat.reduceEqDiff, Nat.reduceAdd, Nat.reduceMul, Nat.reduceLeDiff, Int.reduceLE, Int.reduceLT, Int.reduceEq, Int.reduceToNat, Int.reduceAdd, Int.reduceSub, Int.reduceMul, Int.reduceNeg, reduceCtorEq, Option.bind_some, Option.map_some, List.length_cons, List.length_nil, vcM, List.getElem?_toArray, List.getElem?_cons_zero, List.getElem?_cons_succ])
      (refine W_at c25_ok ?_; refine ⟨_, rfl, ?_⟩; simp (disch := first | omega | assumption | rfl | (simp only [vcS] <;> omega) | fail) only [↓ptV_l, ↓vcA, vcB, ↓vcD, vcE, ↓reduceIte, Nat.reduceEqDiff, Nat.reduceAdd, Nat.reduceMul, Nat.reduceLeDiff, Int.reduceLE, Int.reduceLT, Int.reduceEq, Int.reduceToNat, Int.reduceAdd, Int.reduceSub, Int.reduceMul, Int.reduceNeg, reduceCtorEq, Option.bind_some, Option.map_some, List.length_cons, List.length_nil, vcM, List.getElem?_toArray, List.getElem?_cons_zero, List.getElem?_cons_succ, hk2, Int.toNat_natCast, Nat.mul_one, hbb, h1])
      refine ⟨hwr, ?_⟩
      generalize World.setCell w1 _ _ = w2 at hb2 ⊢
      (refine W_at c25_ok ?_; refine ⟨_, rfl, ?_⟩; simp (disch := first | omega | assumption | rfl | (simp only [vcS] <;> omega) | fail) only [↓ptV_l, ↓vcA, vcB, ↓vcD, vcE, ↓reduceIte, Nat.reduceEqDiff, Nat.reduceAdd, Nat.reduceMul, Nat.reduceLeDiff, Int.reduceLE, Int.reduceLT, Int.reduceEq, Int.reduceToNat, Int.reduceAdd, Int.reduceSub, Int.reduceMul, Int.reduceNeg, reduceCtorEq, Option.bind_some, Option.map_some, List.length_cons, List.length_nil, vcM, List.getElem?_toArray, List.getElem?_cons_zero, List.getElem?_cons_succ])
      have I : ∀ (n' t : Nat) (w3 : World), n' + t = 12 → RB w w3 p q (pq (k + 1) (k * 12 + t) rc) v ws vi ids →
          W Try.prog R 25 29 [(1, .int .i64 h), (2, vi), (3, .pointer (some ⟨p, 0, none⟩)), (6, .pointer (some ⟨q, 0, none⟩)), (7, .int .i64 k), (8, .int .i64 t)] w3 := by
        intro n'
        induction n' with
        | zero =>
          intro t w3 ht hb3
          have ht' : ¬ ((t : Int) < 12) := by omega
          have hw : IntKind.i64.wrap ((k : Int) + 1) = ((k + 1 : Nat) : Int) := wrap_i64 (by omega) (by omega)
          (refine W_at c25_ok ?_; refine ⟨_, rfl, ?_⟩; simp (disch := first | omega | assumption | rfl | (simp only [vcS] <;> omega) | fail) only [↓ptV_l, ↓vcA, vcB, ↓vcD, vcE, ↓reduceIte, Nat.reduceEqDiff, Nat.reduceAdd, Nat.reduceMul, Nat.reduceLeDiff, Int.reduceLE, Int.reduceLT, Int.reduceEq, Int.reduceToNat, Int.reduceAdd, Int.reduceSub, Int.reduceMul, Int.reduceNeg, reduceCtorEq, Option.bind_some, Option.map_some, List.length_cons, List.length_nil, vcM, List.getElem?_toArray, List.getElem?_cons_zero, List.getElem?_cons_succ, ht'])
          (refine W_at c25_ok ?_; refine ⟨_, rfl, ?_⟩; simp (disch := first | omega | assumption | rfl | (simp only [vcS] <;> omega) | fail) only [↓ptV_l, ↓vcA, vcB, ↓vcD, vcE, ↓reduceIte, Nat.reduceEqDiff, Nat.reduceAdd, Nat.reduceMul, Nat.reduceLeDiff, Int.reduceLE, Int.reduceLT, Int.reduceEq, Int.reduceToNat, Int.reduceAdd, Int.reduceSub, Int.reduceMul, Int.reduceNeg, reduceCtorEq, Option.bind_some, Option.map_some, List.length_cons, List.length_nil, vcM, List.getElem?_toArray, List.getElem?_cons_zero, List.getElem?_cons_succ])
          (refine W_at c25_ok ?_; refine ⟨_, rfl, ?_⟩; simp (disch := first | omega | assumption | rfl | (simp only [vcS] <;> omega) | fail) only [↓ptV_l, ↓vcA, vcB, ↓vcD, vcE, ↓reduceIte, Nat.reduceEqDiff, Nat.reduceAdd, Nat.reduceMul, Nat.reduceLeDiff, Int.reduceLE, Int.reduceLT, Int.reduceEq, Int.reduceToNat, Int.reduceAdd, Int.reduceSub, Int.reduceMul, Int.reduceNeg, reduceCtorEq, Option.bind_some, Option.map_some, List.length_cons, List.length_nil, vcM, List.getElem?_toArray, List.getElem?_cons_zero, List.getElem?_cons_succ, hw])
          (refine W_at c25_ok ?_; refine ⟨_, rfl, ?_⟩; simp (disch := first | omega | assumption | rfl | (simp only [vcS] <;> omega) | fail) only [↓ptV_l, ↓vcA, vcB, ↓vcD, vcE, ↓reduceIte, Nat.reduceEqDiff, Nat.reduceAdd, Nat.reduceMul, Nat.reduceLeDiff, Int.reduceLE, Int.reduceLT, Int.reduceEq, Int.reduceToNat, Int.reduceAdd, Int.reduceSub, Int.reduceMul, Int.reduceNeg, reduceCtorEq, Option.bind_some, Option.map_some, List.length_cons, List.length_nil, vcM, List.getElem?_toArray, List.getElem?_cons_zero, List.getElem?_cons_succ])
          refine ih (k + 1) w3 (by omega) ?_
          have : (k + 1) * 12 = k * 12 + t := by omega
          rw [this]; exact hb3
        | succ n' ih' =>
          intro t w3 ht hb3
          have ht' : (t : Int) < 12 := by omega
          have ht2 : 0 ≤ (t : Int) ∧ (t : Int) < 12 := by omega
          have hw : IntKind.i64.wrap ((t : Int) + 1) = ((t + 1 : Nat) : Int) := wrap_i64 (by omega) (by omega)
          have hb4 := hb3.drew
          have hbb4 : w3.heap[p]? = _ := hb3.at'
          have hlp4 := hb3.len
          have h4 : (refC (pq (k + 1) (k * 12 + t) rc) v)[24 + k * 12 + t]? = some (.int .i64 (rc.getD (24 + k * 12 + t) 0)) := by
            rw [refC_int (by omega), Nat.add_assoc, pq_getB hl (by omega)]
          have hwr4 := hb4.wr (i := 24 + k * 12 + t) (by omega)
          have hb5 := hb4.set (i := 24 + k * 12 + t) (by omega) (fadeF (rc.getD (24 + k * 12 + t) 0))
          rw [Nat.add_assoc, pq_setB hl (by omega), ← Nat.add_assoc, Nat.add_assoc (k * 12) t 1] at hb5
          unfold fadeF at hb5
          (refine W_at c25_ok ?_; refine ⟨_, rfl, ?_⟩; simp (disch := first | omega | assumption | rfl | (simp only [vcS] <;> omega) | fail) only [↓ptV_l, ↓vcA, vcB, ↓vcD, vcE, ↓reduceIte, Nat.reduceEqDiff, Nat.reduceAdd, Nat.reduceMul, Nat.reduceLeDiff, Int.reduceLE, Int.reduceLT, Int.reduceEq, Int.reduceToNat, Int.reduceAdd, Int.reduceSub, Int.reduceMul, Int.reduceNeg, reduceCtorEq, Option.bind_some, Option.map_some, List.length_cons, List.length_nil, vcM, List.getElem?_toArray, List.getElem?_cons_zero, List.getElem?_cons_succ, ht'])
          (refine W_at c25_ok ?_; refine ⟨_, rfl, ?_⟩; simp (disch := first | omega | assumption | rfl | (simp only [vcS] <;> omega) | fail) only [↓ptV_l, ↓vcA, vcB, ↓vcD, vcE, ↓reduceIte, Nat.reduceEqDiff, Nat.reduceAdd, Nat.reduceMul, Nat.reduceLeDiff, Int.reduceLE, Int.reduceLT, Int.reduceEq, Int.reduceToNat, Int.reduceAdd, Int.reduceSub, Int.reduceMul, Int.reduceNeg, reduceCtorEq, Option.bind_some, Option.map_some, List.length_cons, List.length_nil, vcM, List.getElem?_toArray, List.getElem?_cons_zero, List.getElem?_cons_succ])
          (refine W_at c25_ok ?_; refine ⟨_, rfl, ?_⟩; simp (disch := first | omega | assumption | rfl | (simp only [vcS] <;> omega) | fail) only [↓ptV_l, ↓vcA, vcB, ↓vcD, vcE, ↓reduceIte, Nat.reduceEqDiff, Nat.reduceAdd, Nat.reduceMul, Nat.reduceLeDiff, Int.reduceLE, Int.reduceLT, Int.reduceEq, Int.reduceToNat, Int.reduceAdd, Int.reduceSub, Int.reduceMul, Int.reduceNeg, reduceCtorEq, Option.bind_some, Option.map_some, List.length_cons, List.length_nil, vcM, List.getElem?_toArray, List.getElem?_cons_zero, List.getElem?_cons_succ, hk2, ht2, Int.toNat_natCast, Nat.mul_one, hbb4, h4])
          refine ⟨hwr4, ?_⟩
          generalize World.setCell w3.drew _ _ = w5 at hb5 ⊢
          (refine W_at c25_ok ?_; refine ⟨_, rfl, ?_⟩; simp (disch := first | omega | assumption | rfl | (simp only [vcS] <;> omega) | fail) only [↓ptV_l, ↓vcA, vcB, ↓vcD, vcE, ↓reduceIte, Nat.reduceEqDiff, Nat.reduceAdd, Nat.reduceMul, Nat.reduceLeDiff, Int.reduceLE, Int.reduceLT, Int.reduceEq, Int.reduceToNat, Int.reduceAdd, Int.reduceSub, Int.reduceMul, Int.reduceNeg, reduceCtorEq, Option.bind_some, Option.map_some, List.length_cons, List.length_nil, vcM, List.getElem?_toArray, List.getElem?_cons_zero, List.getElem?_cons_succ, hw])
          (refine W_at c25_ok ?_; refine ⟨_, rfl, ?_⟩; simp (disch := first | omega | assumption | rfl | (simp only [vcS] <;> omega) | fail) only [↓ptV_l, ↓vcA, vcB, ↓vcD, vcE, ↓reduceIte, Nat.reduceEqDiff, Nat.reduceAdd, Nat.reduceMul, Nat.reduceLeDiff, Int.reduceLE, Int.reduceLT, Int.reduceEq, Int.reduceToNat, Int.reduceAdd, Int.reduceSub, Int.reduceMul, Int.reduceNeg, reduceCtorEq, Option.bind_some, Option.map_some, List.length_cons, List.length_nil, vcM, List.getElem?_toArray, List.getElem?_cons_zero, List.getElem?_cons_succ])
          exact ih' (t + 1) w5 (by omega) hb5
      exact I 12 0 w2 rfl hb2
  exact H 24 0 w0 rfl (by rw [Nat.zero_mul, pq_zero]; exact hb)
end Go.Proofs
