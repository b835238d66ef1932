/- What a journal tells, and the document's journal. -/
import Derived.Test.YtfackfekmadjbaaJB
import Derived.Test.YtfackfekmadjbaaDO
set_option linter.unusedSimpArgs false
set_option linter.unusedVariables false
set_option linter.constructorNameAsVariable false
namespace Go.Proofs
open Go.Vc
set_option maxRecDepth 10000

/-- 'append' of a row. -/
theorem appO2 {w : World} {base el size bytes : Nat} {z : List Value} {v : Value} {ids ids2 : List (Array Value)} {q : Option Addr} {m c2 : Nat} {K : Value → World → Prop} (h : OwnO w base el size v ids)
    (hr : rdS w size (.slice q m c2) = some (ids2.flatMap Array.toList).toArray) (hm : ids2.length = m) (hs2 : ∀ k ∈ ids2, k.size = size) (hf : ∀ k ∈ ids2, flat k)
    (hlen : ids.length + m ≤ 1000000000) (hb : (ids.length + m) * bytes ≤ 140737488355328) (hz : z.length = size) (hbase : base ≤ w.heap.size) (hs : 0 < size)
    (hk : ∀ v' w', OwnO w' base el size v' (ids ++ ids2) → Keep (Go.Proofs.blk v) w w' → (∀ g, Go.Proofs.blk v' g → Go.Proofs.blk v g ∨ w.heap.size ≤ g) → K v' w') :
    appV el size bytes z v (.slice q m c2) w K := by
  have hml : maxLen = 9223372036854775807 := rfl
  have hs3 : ∀ k ∈ ids ++ ids2, k.size = size := fun k hk => by
    rcases List.mem_append.1 hk with hk | hk
    · exact h.sz k hk
    · exact hs2 k hk
  have hfl : (ids ++ ids2).flatMap Array.toList = ids.flatMap Array.toList ++ ids2.flatMap Array.toList := by simp
  have hfll : (ids.flatMap Array.toList).length = ids.length * size := flat_len h.sz
  have hfl2 : (ids2.flatMap Array.toList).length = m * size := by rw [flat_len hs2, hm]
  have hro := h.rd
  have hl2 : (ids ++ ids2).length = ids.length + m := by rw [List.length_append, hm]
  have hmul : (ids.length + m) * size = ids.length * size + m * size := Nat.add_mul _ _ _
  have grow : ∀ c', ids.length + m ≤ c' → c' ≤ maxLen → K (.slice (some ⟨w.heap.size, 0, none⟩) (ids.length + m) c')
      (w.drew.alloc (.cells (ids.flatMap Array.toList ++ ids2.flatMap Array.toList ++ zrep (c' - (ids.length + m)) z).toArray el)) := by
    intro c' h1 h2
    refine hk _ _ ⟨hs3, .inr ⟨_, 0, c', _, by rw [hl2], hbase, heap_new w.drew _ _ rfl, by rw [hl2]; exact h1, h2, ?_, ?_⟩⟩ ?_ ?_
    · simp only [List.size_toArray, List.length_append, hfll, hfl2, length_zrep, hz]
      rw [Nat.zero_add, ← hmul, ← Nat.add_mul]
      exact Nat.mul_le_mul_right _ (by omega)
    · rw [hl2, List.drop_zero, hfl]
      rw [List.take_left']
      rw [List.length_append, hfll, hfl2, hmul]
    · exact ((Keep.refl _ w).drew).alloc _
    · intro g hg; cases hg; exact .inr (Nat.le_refl _)
  have keep0 : ∀ (q : Option Addr) (c : Nat), v = .slice q ids.length c → m * size = 0 → K (.slice q (ids.length + m) c) w := by
    intro q c hv h0
    have hm0 : m = 0 := by rcases Nat.mul_eq_zero.1 h0 with h | h; exact h; omega
    subst hm0
    have : ids2 = [] := List.eq_nil_of_length_eq_zero hm
    subst this
    rw [Nat.add_zero, ← hv]
    refine hk v w ?_ (Keep.refl _ w) fun g hg => .inl hg
    rw [List.append_nil]; exact h
  unfold appV
  obtain ⟨q', c, rfl, hcap⟩ := h.is
  simp only [hro, hr, getV_some]
  refine ⟨flat_flat hf, by omega, hb, hz, fun hc' => ⟨fun h0 => keep0 _ _ rfl h0, fun h0 b o' hp => ?_⟩, fun hc' h0 => ?_, fun _ => grow⟩
  · subst hp
    obtain ⟨_, ⟨e, _⟩ | ⟨g, o, cap, cur, e, hbg, hg, hn, hcm, hle, htake⟩⟩ := h
    · cases e
    · injection e with e1 e2 e3
      injection e1 with e1
      injection e1 with e4 e5
      subst e3 e4 e5
      have e6 : (ids.length + m) * size ≤ c * size := Nat.mul_le_mul_right _ hc'
      rw [hmul] at e6
      refine ⟨okN_of hg (by omega), hk _ _ ⟨hs3, .inr ⟨_, _, c, _, by rw [hl2], hbg, heap_putN_eq hg, by rw [hl2]; exact hc', hcm, ?_, ?_⟩⟩ ?_ fun g' hg' => .inl hg'⟩
      · simp only [spliceA, List.size_toArray, List.length_append, List.length_take, List.length_drop, Array.length_toList (xs := cur), hfl2]
        omega
      · rw [hl2, hfl, ← htake]
        simp only [spliceA]
        rw [hmul]
        have hlen1 : (cur.toList.take (o' + ids.length * size)).length = o' + ids.length * size := by rw [List.length_take, Array.length_toList (xs := cur)]; omega
        rw [List.append_assoc, List.drop_append_of_le_length (by rw [hlen1]; omega), List.drop_take, Nat.add_sub_cancel_left]
        have hlen2 : ((cur.toList.drop o').take (ids.length * size)).length = ids.length * size := by rw [htake, hfll]
        rw [List.take_append, hlen2, List.take_of_length_le (by rw [hlen2]; omega), Nat.add_sub_cancel_left, List.take_left' hfl2]
      · exact (Keep.refl _ w).putN _ fun _ => rfl
  · obtain ⟨_, ⟨e, _⟩ | ⟨g, o, cap, cur, e, _⟩⟩ := h
    · injection e with e1 e2 e3
      subst e3
      exfalso
      have hm0 : m = 0 := by omega
      rw [hm0, Nat.zero_mul] at h0
      exact h0 rfl
    · injection e with e1
      exact ⟨_, _, e1⟩

theorem copy_ok (w : World) (x : Value) (bs : List Int) (hx : Rd w x bs) (hl : bs.length ≤ 100000000) :
    Calls Try.prog 22 #[x] w (Ret fun u w' => New w w' u bs) := by
  refine calls_of_cfg c22_ok (Nat.le_of_ble_eq_true rfl) ?_
  simp only [argE_nil, argE_cons, Nat.reduceAdd, Nat.zero_add]
  (refine W_at c22_ok ?_; refine ⟨_, rfl, ?_⟩; simp (disch := first | omega | assumption | rfl | (simp only [vcS] <;> omega) | fail) only [↓ptV_l, ↓vcA, vcB, ↓vcD, vcE, ↓reduceIte, Nat.reduceEqDiff, Nat.reduceAdd, Nat.reduceMul, Nat.reduceLeDiff, Int.reduceLE, Int.reduceLT, Int.reduceEq, Int.reduceToNat, Int.reduceAdd, Int.reduceSub, Int.reduceMul, Int.reduceNeg, reduceCtorEq, Option.bind_some, Option.map_some, List.length_cons, List.length_nil, vcM, List.getElem?_toArray, List.getElem?_cons_zero, List.getElem?_cons_succ])
  (refine W_at c22_ok ?_; refine ⟨_, rfl, ?_⟩; simp (disch := first | omega | assumption | rfl | (simp only [vcS] <;> omega) | fail) only [↓ptV_l, ↓vcA, vcB, ↓vcD, vcE, ↓reduceIte, Nat.reduceEqDiff, Nat.reduceAdd, Nat.reduceMul, Nat.reduceLeDiff, Int.reduceLE, Int.reduceLT, Int.reduceEq, Int.reduceToNat, Int.reduceAdd, Int.reduceSub, Int.reduceMul, Int.reduceNeg, reduceCtorEq, Option.bind_some, Option.map_some, List.length_cons, List.length_nil, vcM, List.getElem?_toArray, List.getElem?_cons_zero, List.getElem?_cons_succ])
  have hN : New w (w.alloc (.cells (bv []).toArray 5)) (.slice (some ⟨w.heap.size, 0, none⟩) 0 0) [] := New.lit (by simp [maxLen])
  refine appN hN (hx.ext hN.ext) (by simp; omega) fun v' w' h1 _ _ => ?_
  first | (simp (disch := first | omega | assumption | rfl | (simp only [vcS] <;> omega) | fail) only [↓ptV_l, ↓vcA, vcB, ↓vcD, vcE, ↓reduceIte, Nat.reduceEqDiff, Nat.reduceAdd, Nat.reduceMul, Nat.reduceLeDiff, Int.reduceLE, Int.reduceLT, Int.reduceEq, Int.reduceToNat, Int.reduceAdd, Int.reduceSub, Int.reduceMul, Int.reduceNeg, reduceCtorEq, Option.bind_some, Option.map_some, List.length_cons, List.length_nil, vcM, List.getElem?_toArray, List.getElem?_cons_zero, List.getElem?_cons_succ]) | skip
  (refine W_at c22_ok ?_; refine ⟨_, rfl, ?_⟩; simp (disch := first | omega | assumption | rfl | (simp only [vcS] <;> omega) | fail) only [↓ptV_l, ↓vcA, vcB, ↓vcD, vcE, ↓reduceIte, Nat.reduceEqDiff, Nat.reduceAdd, Nat.reduceMul, Nat.reduceLeDiff, Int.reduceLE, Int.reduceLT, Int.reduceEq, Int.reduceToNat, Int.reduceAdd, Int.reduceSub, Int.reduceMul, Int.reduceNeg, reduceCtorEq, Option.bind_some, Option.map_some, List.length_cons, List.length_nil, vcM, List.getElem?_toArray, List.getElem?_cons_zero, List.getElem?_cons_succ, Ret_returned])
  exact h1
theorem small_ok (w : World) (x : Value) (bs : List Int) (n : Nat) (hx : Rd w x bs) :
    Calls Try.prog 10 #[x, .int .i64 n] w (Ret fun u w' => (∀ w0, Rd w0 x bs → Rd w0 u (bs.take n)) ∧ w' = w) := by
  refine calls_of_cfg c10_ok (Nat.le_of_ble_eq_true rfl) ?_
  simp only [argE_nil, argE_cons, Nat.reduceAdd, Nat.zero_add]
  have hlen := hx.len
  obtain ⟨q, c, e, hc⟩ := hx.is
  subst e
  (refine W_at c10_ok ?_; refine ⟨_, rfl, ?_⟩; simp (disch := first | omega | assumption | rfl | (simp only [vcS] <;> omega) | fail) only [↓ptV_l, ↓vcA, vcB, ↓vcD, vcE, ↓reduceIte, Nat.reduceEqDiff, Nat.reduceAdd, Nat.reduceMul, Nat.reduceLeDiff, Int.reduceLE, Int.reduceLT, Int.reduceEq, Int.reduceToNat, Int.reduceAdd, Int.reduceSub, Int.reduceMul, Int.reduceNeg, reduceCtorEq, Option.bind_some, Option.map_some, List.length_cons, List.length_nil, vcM, List.getElem?_toArray, List.getElem?_cons_zero, List.getElem?_cons_succ])
  by_cases h : ((bs.length : Nat) : Int) > (n : Nat)
  · have b1 : 0 ≤ ((n : Nat) : Int) ∧ ((n : Nat) : Int) ≤ (c : Nat) := by omega
    have hcut : ∀ w0, Rd w0 (.slice q bs.length c) bs → Rd w0 (.slice q n c) (bs.take n) := fun w0 h0 => by
      have hcut := h0.cut (l := 0) (j := n) (Nat.zero_le _) (by omega)
      rwa [advA_0, Nat.sub_zero, Nat.sub_zero, List.drop_zero] at hcut
    (refine W_at c10_ok ?_; refine ⟨_, rfl, ?_⟩; simp (disch := first | omega | assumption | rfl | (simp only [vcS] <;> omega) | fail) only [↓ptV_l, ↓vcA, vcB, ↓vcD, vcE, ↓reduceIte, Nat.reduceEqDiff, Nat.reduceAdd, Nat.reduceMul, Nat.reduceLeDiff, Int.reduceLE, Int.reduceLT, Int.reduceEq, Int.reduceToNat, Int.reduceAdd, Int.reduceSub, Int.reduceMul, Int.reduceNeg, reduceCtorEq, Option.bind_some, Option.map_some, List.length_cons, List.length_nil, vcM, List.getElem?_toArray, List.getElem?_cons_zero, List.getElem?_cons_succ, hlen, h])
    (refine W_at c10_ok ?_; refine ⟨_, rfl, ?_⟩; simp (disch := first | omega | assumption | rfl | (simp only [vcS] <;> omega) | fail) only [↓ptV_l, ↓vcA, vcB, ↓vcD, vcE, ↓reduceIte, Nat.reduceEqDiff, Nat.reduceAdd, Nat.reduceMul, Nat.reduceLeDiff, Int.reduceLE, Int.reduceLT, Int.reduceEq, Int.reduceToNat, Int.reduceAdd, Int.reduceSub, Int.reduceMul, Int.reduceNeg, reduceCtorEq, Option.bind_some, Option.map_some, List.length_cons, List.length_nil, vcM, List.getElem?_toArray, List.getElem?_cons_zero, List.getElem?_cons_succ])
    (refine W_at c10_ok ?_; refine ⟨_, rfl, ?_⟩; simp (disch := first | omega | assumption | rfl | (simp only [vcS] <;> omega) | fail) only [↓ptV_l, ↓vcA, vcB, ↓vcD, vcE, ↓reduceIte, Nat.reduceEqDiff, Nat.reduceAdd, Nat.reduceMul, Nat.reduceLeDiff, Int.reduceLE, Int.reduceLT, Int.reduceEq, Int.reduceToNat, Int.reduceAdd, Int.reduceSub, Int.reduceMul, Int.reduceNeg, reduceCtorEq, Option.bind_some, Option.map_some, List.length_cons, List.length_nil, vcM, List.getElem?_toArray, List.getElem?_cons_zero, List.getElem?_cons_succ, b1, Int.toNat_natCast, Nat.sub_zero, advA_0])
    (refine W_at c10_ok ?_; refine ⟨_, rfl, ?_⟩; simp (disch := first | omega | assumption | rfl | (simp only [vcS] <;> omega) | fail) only [↓ptV_l, ↓vcA, vcB, ↓vcD, vcE, ↓reduceIte, Nat.reduceEqDiff, Nat.reduceAdd, Nat.reduceMul, Nat.reduceLeDiff, Int.reduceLE, Int.reduceLT, Int.reduceEq, Int.reduceToNat, Int.reduceAdd, Int.reduceSub, Int.reduceMul, Int.reduceNeg, reduceCtorEq, Option.bind_some, Option.map_some, List.length_cons, List.length_nil, vcM, List.getElem?_toArray, List.getElem?_cons_zero, List.getElem?_cons_succ, Ret_returned])
    first | exact hcut | exact ⟨hcut, rfl⟩
  · (refine W_at c10_ok ?_; refine ⟨_, rfl, ?_⟩; simp (disch := first | omega | assumption | rfl | (simp only [vcS] <;> omega) | fail) only [↓ptV_l, ↓vcA, vcB, ↓vcD, vcE, ↓reduceIte, Nat.reduceEqDiff, Nat.reduceAdd, Nat.reduceMul, Nat.reduceLeDiff, Int.reduceLE, Int.reduceLT, Int.reduceEq, Int.reduceToNat, Int.reduceAdd, Int.reduceSub, Int.reduceMul, Int.reduceNeg, reduceCtorEq, Option.bind_some, Option.map_some, List.length_cons, List.length_nil, vcM, List.getElem?_toArray, List.getElem?_cons_zero, List.getElem?_cons_succ, hlen, h])
    (refine W_at c10_ok ?_; refine ⟨_, rfl, ?_⟩; simp (disch := first | omega | assumption | rfl | (simp only [vcS] <;> omega) | fail) only [↓ptV_l, ↓vcA, vcB, ↓vcD, vcE, ↓reduceIte, Nat.reduceEqDiff, Nat.reduceAdd, Nat.reduceMul, Nat.reduceLeDiff, Int.reduceLE, Int.reduceLT, Int.reduceEq, Int.reduceToNat, Int.reduceAdd, Int.reduceSub, Int.reduceMul, Int.reduceNeg, reduceCtorEq, Option.bind_some, Option.map_some, List.length_cons, List.length_nil, vcM, List.getElem?_toArray, List.getElem?_cons_zero, List.getElem?_cons_succ])
    (refine W_at c10_ok ?_; refine ⟨_, rfl, ?_⟩; simp (disch := first | omega | assumption | rfl | (simp only [vcS] <;> omega) | fail) only [↓ptV_l, ↓vcA, vcB, ↓vcD, vcE, ↓reduceIte, Nat.reduceEqDiff, Nat.reduceAdd, Nat.reduceMul, Nat.reduceLeDiff, Int.reduceLE, Int.reduceLT, Int.reduceEq, Int.reduceToNat, Int.reduceAdd, Int.reduceSub, Int.reduceMul, Int.reduceNeg, reduceCtorEq, Option.bind_some, Option.map_some, List.length_cons, List.length_nil, vcM, List.getElem?_toArray, List.getElem?_cons_zero, List.getElem?_cons_succ])
    (refine W_at c10_ok ?_; refine ⟨_, rfl, ?_⟩; simp (disch := first | omega | assumption | rfl | (simp only [vcS] <;> omega) | fail) only [↓ptV_l, ↓vcA, vcB, ↓vcD, vcE, ↓reduceIte, Nat.reduceEqDiff, Nat.reduceAdd, Nat.reduceMul, Nat.reduceLeDiff, Int.reduceLE, Int.reduceLT, Int.reduceEq, Int.reduceToNat, Int.reduceAdd, Int.reduceSub, Int.reduceMul, Int.reduceNeg, reduceCtorEq, Option.bind_some, Option.map_some, List.length_cons, List.length_nil, vcM, List.getElem?_toArray, List.getElem?_cons_zero, List.getElem?_cons_succ, Ret_returned])
    rw [List.take_of_length_le (by omega)]
    first | exact fun w0 h0 => h0 | exact ⟨fun w0 h0 => h0, rfl⟩
/-- Slices of one's own bytes, all of them new. -/
def RowsN (m : Nat) (w : World) (u : Value) (rs : List (List Int)) : Prop := ∃ vs : List Value, OwnO w m 30 1 u (vs.map fun v => #[v]) ∧ AllB w vs rs ∧ ∀ v ∈ vs, ∃ b, Own1 w v b ∧ ∀ g, blk v g → m ≤ g
theorem RowsN.rows {m : Nat} {w : World} {u : Value} {rs : List (List Int)} (h : RowsN m w u rs) : RowsT w u rs := by
  obtain ⟨vs, h1, h2, _⟩ := h
  exact ⟨vs, h1.base (Nat.zero_le _), h2⟩
theorem RowsN.new {m : Nat} {w : World} {u : Value} {rs : List (List Int)} (h : RowsN m w u rs) {g : Nat} (hg : blk u g) : m ≤ g := by
  obtain ⟨vs, h1, _⟩ := h
  exact (h1.blk hg).1
set_option maxHeartbeats 800000 in
theorem Records_ok (w : World) (jp p : Nat) (sv rv : Value) (J : JS) (h : JAt w jp p sv rv J) (hl : J.recs.length ≤ 10000000) (hb : ∀ b ∈ J.recs, b.length ≤ 100000000) :
    Calls Try.prog 19 #[.pointer (some ⟨jp, 0, none⟩)] w (Ret fun u w' => RowsN w.heap.size w' u J.recs ∧ Ext w w') := by
  refine calls_of_cfg c19_ok (Nat.le_of_ble_eq_true rfl) ?_
  simp only [argE_nil, argE_cons, Nat.reduceAdd, Nat.zero_add]
  have ho := h.obj
  have hlen := h.recs.len
  (refine W_at c19_ok ?_; refine ⟨_, rfl, ?_⟩; simp (disch := first | omega | assumption | rfl | (simp only [vcS] <;> omega) | fail) only [↓ptV_l, ↓vcA, vcB, ↓vcD, vcE, ↓reduceIte, Nat.reduceEqDiff, Nat.reduceAdd, Nat.reduceMul, Nat.reduceLeDiff, Int.reduceLE, Int.reduceLT, Int.reduceEq, Int.reduceToNat, Int.reduceAdd, Int.reduceSub, Int.reduceMul, Int.reduceNeg, reduceCtorEq, Option.bind_some, Option.map_some, List.length_cons, List.length_nil, vcM, List.getElem?_toArray, List.getElem?_cons_zero, List.getElem?_cons_succ])
  (refine W_at c19_ok ?_; refine ⟨_, rfl, ?_⟩; simp (disch := first | omega | assumption | rfl | (simp only [vcS] <;> omega) | fail) only [↓ptV_l, ↓vcA, vcB, ↓vcD, vcE, ↓reduceIte, Nat.reduceEqDiff, Nat.reduceAdd, Nat.reduceMul, Nat.reduceLeDiff, Int.reduceLE, Int.reduceLT, Int.reduceEq, Int.reduceToNat, Int.reduceAdd, Int.reduceSub, Int.reduceMul, Int.reduceNeg, reduceCtorEq, Option.bind_some, Option.map_some, List.length_cons, List.length_nil, vcM, List.getElem?_toArray, List.getElem?_cons_zero, List.getElem?_cons_succ])
  (refine W_at c19_ok ?_; refine ⟨_, rfl, ?_⟩; simp (disch := first | omega | assumption | rfl | (simp only [vcS] <;> omega) | fail) only [↓ptV_l, ↓vcA, vcB, ↓vcD, vcE, ↓reduceIte, Nat.reduceEqDiff, Nat.reduceAdd, Nat.reduceMul, Nat.reduceLeDiff, Int.reduceLE, Int.reduceLT, Int.reduceEq, Int.reduceToNat, Int.reduceAdd, Int.reduceSub, Int.reduceMul, Int.reduceNeg, reduceCtorEq, Option.bind_some, Option.map_some, List.length_cons, List.length_nil, vcM, List.getElem?_toArray, List.getElem?_cons_zero, List.getElem?_cons_succ, ho, hlen])
  have L : ∀ (k i : Nat) (w1 : World) (uo : Value), i + k = J.recs.length → Ext w w1 → RowsN w.heap.size w1 uo (J.recs.take i) →
      W Try.prog (Ret fun u w' => RowsN w.heap.size w' u J.recs ∧ Ext w w') 19 8 [(3, uo), (9, rv), (10, .int .i64 (J.recs.length : Nat)), (11, .int .i64 (i : Nat))] w1 := by
    intro k
    induction k with
    | zero =>
      intro i w1 uo hi hE hR
      obtain rfl : i = J.recs.length := by omega
      have hno : ¬ ((J.recs.length : Nat) : Int) < ((J.recs.length : Nat) : Int) := by omega
      rw [List.take_length] at hR
      (refine W_at c19_ok ?_; refine ⟨_, rfl, ?_⟩; simp (disch := first | omega | assumption | rfl | (simp only [vcS] <;> omega) | fail) only [↓ptV_l, ↓vcA, vcB, ↓vcD, vcE, ↓reduceIte, Nat.reduceEqDiff, Nat.reduceAdd, Nat.reduceMul, Nat.reduceLeDiff, Int.reduceLE, Int.reduceLT, Int.reduceEq, Int.reduceToNat, Int.reduceAdd, Int.reduceSub, Int.reduceMul, Int.reduceNeg, reduceCtorEq, Option.bind_some, Option.map_some, List.length_cons, List.length_nil, vcM, List.getElem?_toArray, List.getElem?_cons_zero, List.getElem?_cons_succ, hno])
      (refine W_at c19_ok ?_; refine ⟨_, rfl, ?_⟩; simp (disch := first | omega | assumption | rfl | (simp only [vcS] <;> omega) | fail) only [↓ptV_l, ↓vcA, vcB, ↓vcD, vcE, ↓reduceIte, Nat.reduceEqDiff, Nat.reduceAdd, Nat.reduceMul, Nat.reduceLeDiff, Int.reduceLE, Int.reduceLT, Int.reduceEq, Int.reduceToNat, Int.reduceAdd, Int.reduceSub, Int.reduceMul, Int.reduceNeg, reduceCtorEq, Option.bind_some, Option.map_some, List.length_cons, List.length_nil, vcM, List.getElem?_toArray, List.getElem?_cons_zero, List.getElem?_cons_succ])
      (refine W_at c19_ok ?_; refine ⟨_, rfl, ?_⟩; simp (disch := first | omega | assumption | rfl | (simp only [vcS] <;> omega) | fail) only [↓ptV_l, ↓vcA, vcB, ↓vcD, vcE, ↓reduceIte, Nat.reduceEqDiff, Nat.reduceAdd, Nat.reduceMul, Nat.reduceLeDiff, Int.reduceLE, Int.reduceLT, Int.reduceEq, Int.reduceToNat, Int.reduceAdd, Int.reduceSub, Int.reduceMul, Int.reduceNeg, reduceCtorEq, Option.bind_some, Option.map_some, List.length_cons, List.length_nil, vcM, List.getElem?_toArray, List.getElem?_cons_zero, List.getElem?_cons_succ])
      (refine W_at c19_ok ?_; refine ⟨_, rfl, ?_⟩; simp (disch := first | omega | assumption | rfl | (simp only [vcS] <;> omega) | fail) only [↓ptV_l, ↓vcA, vcB, ↓vcD, vcE, ↓reduceIte, Nat.reduceEqDiff, Nat.reduceAdd, Nat.reduceMul, Nat.reduceLeDiff, Int.reduceLE, Int.reduceLT, Int.reduceEq, Int.reduceToNat, Int.reduceAdd, Int.reduceSub, Int.reduceMul, Int.reduceNeg, reduceCtorEq, Option.bind_some, Option.map_some, List.length_cons, List.length_nil, vcM, List.getElem?_toArray, List.getElem?_cons_zero, List.getElem?_cons_succ, Ret_returned])
      exact ⟨hR, hE⟩
    | succ k ih =>
      intro i w1 uo hi hE hR
      have hi1 : i < J.recs.length := by omega
      have hlt : ((i : Nat) : Int) < ((J.recs.length : Nat) : Int) := by omega
      have b1 : 0 ≤ ((i : Nat) : Int) ∧ ((i : Nat) : Int) < ((J.recs.length : Nat) : Int) := by omega
      have hws : IntKind.i64.wrap (((i : Nat) : Int) + 1) = ((i + 1 : Nat) : Int) := wrap_i64 (by omega) (by omega)
      obtain ⟨g, o, cap, v, e, hcell, hv⟩ := (h.recs.ext hE).at hi1
      subst e
      (refine W_at c19_ok ?_; refine ⟨_, rfl, ?_⟩; simp (disch := first | omega | assumption | rfl | (simp only [vcS] <;> omega) | fail) only [↓ptV_l, ↓vcA, vcB, ↓vcD, vcE, ↓reduceIte, Nat.reduceEqDiff, Nat.reduceAdd, Nat.reduceMul, Nat.reduceLeDiff, Int.reduceLE, Int.reduceLT, Int.reduceEq, Int.reduceToNat, Int.reduceAdd, Int.reduceSub, Int.reduceMul, Int.reduceNeg, reduceCtorEq, Option.bind_some, Option.map_some, List.length_cons, List.length_nil, vcM, List.getElem?_toArray, List.getElem?_cons_zero, List.getElem?_cons_succ, hlt])
      (refine W_at c19_ok ?_; refine ⟨_, rfl, ?_⟩; simp (disch := first | omega | assumption | rfl | (simp only [vcS] <;> omega) | fail) only [↓ptV_l, ↓vcA, vcB, ↓vcD, vcE, ↓reduceIte, Nat.reduceEqDiff, Nat.reduceAdd, Nat.reduceMul, Nat.reduceLeDiff, Int.reduceLE, Int.reduceLT, Int.reduceEq, Int.reduceToNat, Int.reduceAdd, Int.reduceSub, Int.reduceMul, Int.reduceNeg, reduceCtorEq, Option.bind_some, Option.map_some, List.length_cons, List.length_nil, vcM, List.getElem?_toArray, List.getElem?_cons_zero, List.getElem?_cons_succ])
      (refine W_at c19_ok ?_; refine ⟨_, rfl, ?_⟩; simp (disch := first | omega | assumption | rfl | (simp only [vcS] <;> omega) | fail) only [↓ptV_l, ↓vcA, vcB, ↓vcD, vcE, ↓reduceIte, Nat.reduceEqDiff, Nat.reduceAdd, Nat.reduceMul, Nat.reduceLeDiff, Int.reduceLE, Int.reduceLT, Int.reduceEq, Int.reduceToNat, Int.reduceAdd, Int.reduceSub, Int.reduceMul, Int.reduceNeg, reduceCtorEq, Option.bind_some, Option.map_some, List.length_cons, List.length_nil, vcM, List.getElem?_toArray, List.getElem?_cons_zero, List.getElem?_cons_succ, b1, Int.toNat_natCast, Nat.mul_one, hcell])
      (refine W_at c19_ok ?_; refine ⟨_, rfl, ?_⟩; simp (disch := first | omega | assumption | rfl | (simp only [vcS] <;> omega) | fail) only [↓ptV_l, ↓vcA, vcB, ↓vcD, vcE, ↓reduceIte, Nat.reduceEqDiff, Nat.reduceAdd, Nat.reduceMul, Nat.reduceLeDiff, Int.reduceLE, Int.reduceLT, Int.reduceEq, Int.reduceToNat, Int.reduceAdd, Int.reduceSub, Int.reduceMul, Int.reduceNeg, reduceCtorEq, Option.bind_some, Option.map_some, List.length_cons, List.length_nil, vcM, List.getElem?_toArray, List.getElem?_cons_zero, List.getElem?_cons_succ])
      refine callV_ret (clone_ok w1 v _ hv.1 (by have := hb _ (List.getElem_mem hi1); omega)) ?_
      rintro vc w2 ⟨hO2, hE2, hn2⟩
      obtain ⟨q, c, e, _⟩ := hO2.rd.is
      have hvc := hO2.rd.one
      subst e
      simp (disch := first | omega | assumption | rfl | (simp only [vcS] <;> omega) | fail) only [↓ptV_l, ↓vcA, vcB, ↓vcD, vcE, ↓reduceIte, Nat.reduceEqDiff, Nat.reduceAdd, Nat.reduceMul, Nat.reduceLeDiff, Int.reduceLE, Int.reduceLT, Int.reduceEq, Int.reduceToNat, Int.reduceAdd, Int.reduceSub, Int.reduceMul, Int.reduceNeg, reduceCtorEq, Option.bind_some, Option.map_some, List.length_cons, List.length_nil, vcM, List.getElem?_toArray, List.getElem?_cons_zero, List.getElem?_cons_succ]
      obtain ⟨vs, hO, hA, hN⟩ := hR
      have hvl := forall2_len hA
      rw [List.length_take] at hvl
      refine appRow (hO.ext hE2) hvc (by omega) (Nat.le_trans hE.size hE2.size) fun uo' w3 hO3 hk3 hb3 => ?_
      have hA2 := forall2_keep hA fun v bs hb => hb.ext hE2
      have hA3 := RowsT.app ((hO.ext hE2).base (Nat.zero_le _)) hA2 (ByT.own hO2) hk3
      have nb : ∀ g c, w2.heap[g]? = some (.cells c 5 (0, 0)) → ¬ blk uo g := fun g c hg hb => by
        obtain ⟨c', hc⟩ := ((hO.ext hE2).blk hb).2
        rw [hg] at hc
        cases hc
      first | (simp (disch := first | omega | assumption | rfl | (simp only [vcS] <;> omega) | fail) only [↓ptV_l, ↓vcA, vcB, ↓vcD, vcE, ↓reduceIte, Nat.reduceEqDiff, Nat.reduceAdd, Nat.reduceMul, Nat.reduceLeDiff, Int.reduceLE, Int.reduceLT, Int.reduceEq, Int.reduceToNat, Int.reduceAdd, Int.reduceSub, Int.reduceMul, Int.reduceNeg, reduceCtorEq, Option.bind_some, Option.map_some, List.length_cons, List.length_nil, vcM, List.getElem?_toArray, List.getElem?_cons_zero, List.getElem?_cons_succ]) | skip
      (refine W_at c19_ok ?_; refine ⟨_, rfl, ?_⟩; simp (disch := first | omega | assumption | rfl | (simp only [vcS] <;> omega) | fail) only [↓ptV_l, ↓vcA, vcB, ↓vcD, vcE, ↓reduceIte, Nat.reduceEqDiff, Nat.reduceAdd, Nat.reduceMul, Nat.reduceLeDiff, Int.reduceLE, Int.reduceLT, Int.reduceEq, Int.reduceToNat, Int.reduceAdd, Int.reduceSub, Int.reduceMul, Int.reduceNeg, reduceCtorEq, Option.bind_some, Option.map_some, List.length_cons, List.length_nil, vcM, List.getElem?_toArray, List.getElem?_cons_zero, List.getElem?_cons_succ, hws])
      (refine W_at c19_ok ?_; refine ⟨_, rfl, ?_⟩; simp (disch := first | omega | assumption | rfl | (simp only [vcS] <;> omega) | fail) only [↓ptV_l, ↓vcA, vcB, ↓vcD, vcE, ↓reduceIte, Nat.reduceEqDiff, Nat.reduceAdd, Nat.reduceMul, Nat.reduceLeDiff, Int.reduceLE, Int.reduceLT, Int.reduceEq, Int.reduceToNat, Int.reduceAdd, Int.reduceSub, Int.reduceMul, Int.reduceNeg, reduceCtorEq, Option.bind_some, Option.map_some, List.length_cons, List.length_nil, vcM, List.getElem?_toArray, List.getElem?_cons_zero, List.getElem?_cons_succ])
      refine ih (i + 1) w3 uo' (by omega) ((hE.ext hE2).trans hk3 fun i hi hb => ?_) ⟨vs ++ [.slice q (J.recs[i]).length c], hO3, ?_, fun v hv => ?_⟩
      · have := (hO.blk hb).1; omega
      · have e : J.recs.take (i + 1) = J.recs.take i ++ [J.recs[i]] := by rw [List.take_add_one, List.getElem?_eq_getElem hi1]; rfl
        rw [e]
        exact hA3
      · rcases List.mem_append.1 hv with hv | hv
        · obtain ⟨b, h1, h2⟩ := hN v hv
          refine ⟨b, (h1.ext hE2).keep hk3 fun g hg => ?_, h2⟩
          obtain ⟨c', hc⟩ := row_type (h1.ext hE2) hg
          exact nb g c' hc
        · rw [List.mem_singleton.1 hv]
          refine ⟨_, hO2.keep hk3 fun g hg => ?_, fun g hg => Nat.le_trans hE.size (hn2 g hg)⟩
          obtain ⟨c', hc⟩ := row_type hO2 hg
          exact nb g c' hc
  exact L J.recs.length 0 w _ (by omega) (Keep.refl _ w) ⟨[], OwnO.nil _ _ _ _, by rw [List.take_zero]; exact .nil, fun v hv => by cases hv⟩
end Go.Proofs
