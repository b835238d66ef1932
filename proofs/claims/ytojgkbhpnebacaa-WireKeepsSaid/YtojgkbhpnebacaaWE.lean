/- The document's reader. -/
import Derived.Test.YtojgkbhpnebacaaWD
set_option linter.unusedSimpArgs false
set_option linter.unusedVariables false
set_option linter.constructorNameAsVariable false
namespace Go.Proofs
open Go.Vc
set_option maxRecDepth 10000

theorem pow256_le {a b : Nat} (h : a ≤ b) : (256 : Int) ^ a ≤ 256 ^ b := by
  have h1 : (256 : Nat) ^ a ≤ 256 ^ b := Nat.pow_le_pow_right (by omega) h
  have e : ∀ n : Nat, (256 : Int) ^ n = ((256 ^ n : Nat) : Int) := fun n => (Int.natCast_pow 256 n).symm
  rw [e, e]; exact Int.ofNat_le.mpr h1
theorem value_ok (w : World) (x : Value) (bs : List Int) (hx : Rd w x bs) (hb : byt bs) (hl : bs.length ≤ 8) :
    Calls Try.prog 60 #[x] w (Ret fun u w' => u = .int .u64 (valF bs) ∧ w' = w) := by
  refine calls_of_cfg c60_ok (Nat.le_of_ble_eq_true rfl) ?_
  simp only [argE_nil, argE_cons, Nat.reduceAdd, Nat.zero_add]
  have hlen := hx.len
  have hwi : IntKind.i64.wrap ((bs.length : Int) - 1) = (bs.length : Int) - 1 := wrap_i64 (by omega) (by omega)
  (refine W_at c60_ok ?_; refine ⟨_, rfl, ?_⟩; simp (disch := first | omega | assumption | rfl | (simp only [vcS] <;> omega) | fail) only [↓ptV_l, ↓vcA, vcB, ↓vcD, vcE, ↓reduceIte, Nat.reduceEqDiff, Nat.reduceAdd, Nat.reduceMul, Nat.reduceLeDiff, Int.reduceLE, Int.reduceLT, Int.reduceEq, Int.reduceToNat, Int.reduceAdd, Int.reduceSub, Int.reduceMul, Int.reduceNeg, reduceCtorEq, Option.bind_some, Option.map_some, List.length_cons, List.length_nil, vcM, List.getElem?_toArray, List.getElem?_cons_zero, List.getElem?_cons_succ])
  (refine W_at c60_ok ?_; refine ⟨_, rfl, ?_⟩; simp (disch := first | omega | assumption | rfl | (simp only [vcS] <;> omega) | fail) only [↓ptV_l, ↓vcA, vcB, ↓vcD, vcE, ↓reduceIte, Nat.reduceEqDiff, Nat.reduceAdd, Nat.reduceMul, Nat.reduceLeDiff, Int.reduceLE, Int.reduceLT, Int.reduceEq, Int.reduceToNat, Int.reduceAdd, Int.reduceSub, Int.reduceMul, Int.reduceNeg, reduceCtorEq, Option.bind_some, Option.map_some, List.length_cons, List.length_nil, vcM, List.getElem?_toArray, List.getElem?_cons_zero, List.getElem?_cons_succ])
  (refine W_at c60_ok ?_; refine ⟨_, rfl, ?_⟩; simp (disch := first | omega | assumption | rfl | (simp only [vcS] <;> omega) | fail) only [↓ptV_l, ↓vcA, vcB, ↓vcD, vcE, ↓reduceIte, Nat.reduceEqDiff, Nat.reduceAdd, Nat.reduceMul, Nat.reduceLeDiff, Int.reduceLE, Int.reduceLT, Int.reduceEq, Int.reduceToNat, Int.reduceAdd, Int.reduceSub, Int.reduceMul, Int.reduceNeg, reduceCtorEq, Option.bind_some, Option.map_some, List.length_cons, List.length_nil, vcM, List.getElem?_toArray, List.getElem?_cons_zero, List.getElem?_cons_succ, hlen, hwi])
  have L : ∀ (k : Nat) (y : Int), k ≤ bs.length → y = valF (bs.drop k) →
      W Try.prog (Ret fun u w' => u = .int .u64 (valF bs) ∧ w' = w) 60 7 [(0, x), (3, .int .u64 y), (4, .int .i64 ((k : Int) - 1))] w := by
    intro k
    induction k with
    | zero =>
      intro y hk hy
      have hge : ¬ (0 ≤ ((0 : Nat) : Int) - 1) := by omega
      (refine W_at c60_ok ?_; refine ⟨_, rfl, ?_⟩; simp (disch := first | omega | assumption | rfl | (simp only [vcS] <;> omega) | fail) only [↓ptV_l, ↓vcA, vcB, ↓vcD, vcE, ↓reduceIte, Nat.reduceEqDiff, Nat.reduceAdd, Nat.reduceMul, Nat.reduceLeDiff, Int.reduceLE, Int.reduceLT, Int.reduceEq, Int.reduceToNat, Int.reduceAdd, Int.reduceSub, Int.reduceMul, Int.reduceNeg, reduceCtorEq, Option.bind_some, Option.map_some, List.length_cons, List.length_nil, vcM, List.getElem?_toArray, List.getElem?_cons_zero, List.getElem?_cons_succ, hge])
      (refine W_at c60_ok ?_; refine ⟨_, rfl, ?_⟩; simp (disch := first | omega | assumption | rfl | (simp only [vcS] <;> omega) | fail) only [↓ptV_l, ↓vcA, vcB, ↓vcD, vcE, ↓reduceIte, Nat.reduceEqDiff, Nat.reduceAdd, Nat.reduceMul, Nat.reduceLeDiff, Int.reduceLE, Int.reduceLT, Int.reduceEq, Int.reduceToNat, Int.reduceAdd, Int.reduceSub, Int.reduceMul, Int.reduceNeg, reduceCtorEq, Option.bind_some, Option.map_some, List.length_cons, List.length_nil, vcM, List.getElem?_toArray, List.getElem?_cons_zero, List.getElem?_cons_succ])
      (refine W_at c60_ok ?_; refine ⟨_, rfl, ?_⟩; simp (disch := first | omega | assumption | rfl | (simp only [vcS] <;> omega) | fail) only [↓ptV_l, ↓vcA, vcB, ↓vcD, vcE, ↓reduceIte, Nat.reduceEqDiff, Nat.reduceAdd, Nat.reduceMul, Nat.reduceLeDiff, Int.reduceLE, Int.reduceLT, Int.reduceEq, Int.reduceToNat, Int.reduceAdd, Int.reduceSub, Int.reduceMul, Int.reduceNeg, reduceCtorEq, Option.bind_some, Option.map_some, List.length_cons, List.length_nil, vcM, List.getElem?_toArray, List.getElem?_cons_zero, List.getElem?_cons_succ])
      (refine W_at c60_ok ?_; refine ⟨_, rfl, ?_⟩; simp (disch := first | omega | assumption | rfl | (simp only [vcS] <;> omega) | fail) only [↓ptV_l, ↓vcA, vcB, ↓vcD, vcE, ↓reduceIte, Nat.reduceEqDiff, Nat.reduceAdd, Nat.reduceMul, Nat.reduceLeDiff, Int.reduceLE, Int.reduceLT, Int.reduceEq, Int.reduceToNat, Int.reduceAdd, Int.reduceSub, Int.reduceMul, Int.reduceNeg, reduceCtorEq, Option.bind_some, Option.map_some, List.length_cons, List.length_nil, vcM, List.getElem?_toArray, List.getElem?_cons_zero, List.getElem?_cons_succ, Ret_returned])
      rw [hy, List.drop_zero]
    | succ k ih =>
      intro y hk hy
      have e1 : ((k + 1 : Nat) : Int) - 1 = (k : Nat) := by omega
      rw [e1]
      have hge : 0 ≤ (k : Int) := by omega
      have hlt : k < bs.length := by omega
      have hi2 : 0 ≤ (k : Int) ∧ (k : Int) < bs.length := by omega
      obtain ⟨b, o, c, rfl, hcell⟩ := hx.at hlt
      have hbk := hb bs[k] (List.getElem_mem hlt)
      have hdr : bs.drop k = bs[k] :: bs.drop (k + 1) := List.drop_eq_getElem_cons hlt
      have hby : byt (bs.drop (k + 1)) := fun z hz => hb z (List.mem_of_mem_drop hz)
      have hv := valF_lt hby
      have hp : (256 : Int) ^ (bs.drop (k + 1)).length ≤ 256 ^ 7 := pow256_le (by rw [List.length_drop]; omega)
      have h7 : (256 : Int) ^ 7 = 72057594037927936 := rfl
      rw [← hy] at hv
      have hw1 : IntKind.u64.wrap (y * 256) = y * 256 := by rw [wrap_u64]; omega
      have hw0 : IntKind.u64.wrap bs[k] = bs[k] := by rw [wrap_u64]; omega
      have hw2 : IntKind.u64.wrap (y * 256 + bs[k]) = y * 256 + bs[k] := by rw [wrap_u64]; omega
      have hw3 : IntKind.i64.wrap ((k : Int) - 1) = (k : Int) - 1 := wrap_i64 (by omega) (by omega)
      (refine W_at c60_ok ?_; refine ⟨_, rfl, ?_⟩; simp (disch := first | omega | assumption | rfl | (simp only [vcS] <;> omega) | fail) only [↓ptV_l, ↓vcA, vcB, ↓vcD, vcE, ↓reduceIte, Nat.reduceEqDiff, Nat.reduceAdd, Nat.reduceMul, Nat.reduceLeDiff, Int.reduceLE, Int.reduceLT, Int.reduceEq, Int.reduceToNat, Int.reduceAdd, Int.reduceSub, Int.reduceMul, Int.reduceNeg, reduceCtorEq, Option.bind_some, Option.map_some, List.length_cons, List.length_nil, vcM, List.getElem?_toArray, List.getElem?_cons_zero, List.getElem?_cons_succ, hge])
      (refine W_at c60_ok ?_; refine ⟨_, rfl, ?_⟩; simp (disch := first | omega | assumption | rfl | (simp only [vcS] <;> omega) | fail) only [↓ptV_l, ↓vcA, vcB, ↓vcD, vcE, ↓reduceIte, Nat.reduceEqDiff, Nat.reduceAdd, Nat.reduceMul, Nat.reduceLeDiff, Int.reduceLE, Int.reduceLT, Int.reduceEq, Int.reduceToNat, Int.reduceAdd, Int.reduceSub, Int.reduceMul, Int.reduceNeg, reduceCtorEq, Option.bind_some, Option.map_some, List.length_cons, List.length_nil, vcM, List.getElem?_toArray, List.getElem?_cons_zero, List.getElem?_cons_succ])
      (refine W_at c60_ok ?_; refine ⟨_, rfl, ?_⟩; simp (disch := first | omega | assumption | rfl | (simp only [vcS] <;> omega) | fail) only [↓ptV_l, ↓vcA, vcB, ↓vcD, vcE, ↓reduceIte, Nat.reduceEqDiff, Nat.reduceAdd, Nat.reduceMul, Nat.reduceLeDiff, Int.reduceLE, Int.reduceLT, Int.reduceEq, Int.reduceToNat, Int.reduceAdd, Int.reduceSub, Int.reduceMul, Int.reduceNeg, reduceCtorEq, Option.bind_some, Option.map_some, List.length_cons, List.length_nil, vcM, List.getElem?_toArray, List.getElem?_cons_zero, List.getElem?_cons_succ, hi2, Int.toNat_natCast, Nat.mul_one, hcell, hw0, hw1, hw2])
      (refine W_at c60_ok ?_; refine ⟨_, rfl, ?_⟩; simp (disch := first | omega | assumption | rfl | (simp only [vcS] <;> omega) | fail) only [↓ptV_l, ↓vcA, vcB, ↓vcD, vcE, ↓reduceIte, Nat.reduceEqDiff, Nat.reduceAdd, Nat.reduceMul, Nat.reduceLeDiff, Int.reduceLE, Int.reduceLT, Int.reduceEq, Int.reduceToNat, Int.reduceAdd, Int.reduceSub, Int.reduceMul, Int.reduceNeg, reduceCtorEq, Option.bind_some, Option.map_some, List.length_cons, List.length_nil, vcM, List.getElem?_toArray, List.getElem?_cons_zero, List.getElem?_cons_succ, hw3])
      (refine W_at c60_ok ?_; refine ⟨_, rfl, ?_⟩; simp (disch := first | omega | assumption | rfl | (simp only [vcS] <;> omega) | fail) only [↓ptV_l, ↓vcA, vcB, ↓vcD, vcE, ↓reduceIte, Nat.reduceEqDiff, Nat.reduceAdd, Nat.reduceMul, Nat.reduceLeDiff, Int.reduceLE, Int.reduceLT, Int.reduceEq, Int.reduceToNat, Int.reduceAdd, Int.reduceSub, Int.reduceMul, Int.reduceNeg, reduceCtorEq, Option.bind_some, Option.map_some, List.length_cons, List.length_nil, vcM, List.getElem?_toArray, List.getElem?_cons_zero, List.getElem?_cons_succ])
      exact ih _ (by omega) (by rw [hdr, valF, ← hy]; omega)
  exact L bs.length 0 (Nat.le_refl _) (by rw [List.drop_length]; rfl)

theorem rdO3 (a b c : Value) (t : Nat) (f : Nat × Nat) : rdO (some (.cells #[a, b, c] t f)) 0 3 = some #[a, b, c] := id rfl
theorem flat3 {a b c : Value} (ha : a.oneCell' = true) (hb : b.oneCell' = true) (hc : c.oneCell' = true) : flat #[a, b, c] := by intro z hz; simp at hz; rcases hz with rfl | rfl | rfl <;> assumption
theorem rdO_put {w : World} {b : Nat} {t : TypeId} {c cs : Array Value} {n : Nat} (h : w.heap[b]? = some (.cells c t (0, 0))) (hs : c.size = n) (hn : cs.size = n) : rdO (w.putN b 0 cs).heap[b]? 0 n = some cs := by
  rw [heap_putN_eq h, splice_all (by omega), rdO_all _ _ _ _ hn]
/-- What a reading of the document's leaves: the value, and the reader with its place. -/
structure ITo {α : Type} (w w' : World) (x : Value) (bs : List Int) (a : Nat) (e : Int) (res : Except Int (α × List Int)) (φ : α → Value → World → Prop) (z u : Value) : Prop where
  ext : Ext w w'
  is : ∃ val a' e', u = .tuple #[val, .agg #[x, .int .i64 (a' : Nat), .int .i64 e']] ∧ (a ≤ a' ∧ a' ≤ bs.length) ∧ (e ≠ 0 → val = z ∧ a' = a ∧ e' = e) ∧ (e = 0 → ∀ y rest, res = .ok (y, rest) → φ y val w' ∧ bs.drop a' = rest ∧ e' = 0) ∧ (e = 0 → ∀ k, res = .error k → val = z ∧ a' = a ∧ e' = k)

set_option maxHeartbeats 800000 in
theorem iRaw_ok (w : World) (x : Value) (bs : List Int) (a : Nat) (e n : Int) (hx : Rd w x bs) (ha : a ≤ bs.length) (hl : bs.length ≤ 1000000000) (hn : -1000000000 ≤ n ∧ n ≤ 1000000000) :
    Calls Try.prog 47 #[.agg #[x, .int .i64 a, .int .i64 e], .int .i64 n] w (Ret fun u w' => ITo w w' x bs a e (rawR n (bs.drop a)) (OwnN w.heap.size) (.slice none 0 0) u) := by
  refine calls_of_cfg c47_ok (Nat.le_of_ble_eq_true rfl) ?_
  simp only [argE_nil, argE_cons, Nat.reduceAdd, Nat.zero_add]
  have hlen := hx.len
  have hx1 := hx.one
  have hz1 : zc [(1, Value.slice none 0 0), (2, .int .i64 0)] = #[.slice none 0 0, .int .i64 0, .int .i64 0] := rfl
  (refine W_at c47_ok ?_; refine ⟨_, rfl, ?_⟩; simp (disch := first | omega | assumption | rfl | (simp only [vcS] <;> omega) | fail) only [↓ptV_l, ↓vcA, vcB, ↓vcD, vcE, ↓reduceIte, Nat.reduceEqDiff, Nat.reduceAdd, Nat.reduceMul, Nat.reduceLeDiff, Int.reduceLE, Int.reduceLT, Int.reduceEq, Int.reduceToNat, Int.reduceAdd, Int.reduceSub, Int.reduceMul, Int.reduceNeg, reduceCtorEq, Option.bind_some, Option.map_some, List.length_cons, List.length_nil, vcM, List.getElem?_toArray, List.getElem?_cons_zero, List.getElem?_cons_succ, hz1])
  have h2 : ((w.alloc (Obj.cells #[x, Value.int IntKind.i64 ↑a, Value.int IntKind.i64 e] 49)).alloc (Obj.cells #[Value.slice none 0 0, Value.int IntKind.i64 0, Value.int IntKind.i64 0] 49)).heap[w.heap.size]? = some (.cells #[x, .int .i64 a, .int .i64 e] 49 (0, 0)) := by simp (disch := first | omega | assumption | rfl | (simp only [vcS] <;> omega) | fail) only [↓ptV_l, ↓vcA, vcB, ↓vcD, vcE, ↓reduceIte, Nat.reduceEqDiff, Nat.reduceAdd, Nat.reduceMul, Nat.reduceLeDiff, Int.reduceLE, Int.reduceLT, Int.reduceEq, Int.reduceToNat, Int.reduceAdd, Int.reduceSub, Int.reduceMul, Int.reduceNeg, reduceCtorEq, Option.bind_some, Option.map_some, List.length_cons, List.length_nil, vcM, List.getElem?_toArray, List.getElem?_cons_zero, List.getElem?_cons_succ]
  have h5 : ((w.alloc (Obj.cells #[x, Value.int IntKind.i64 ↑a, Value.int IntKind.i64 e] 49)).alloc (Obj.cells #[Value.slice none 0 0, Value.int IntKind.i64 0, Value.int IntKind.i64 0] 49)).heap[w.heap.size + 1]? = some (.cells #[.slice none 0 0, .int .i64 0, .int .i64 0] 49 (0, 0)) := by simp (disch := first | omega | assumption | rfl | (simp only [vcS] <;> omega) | fail) only [↓ptV_l, ↓vcA, vcB, ↓vcD, vcE, ↓reduceIte, Nat.reduceEqDiff, Nat.reduceAdd, Nat.reduceMul, Nat.reduceLeDiff, Int.reduceLE, Int.reduceLT, Int.reduceEq, Int.reduceToNat, Int.reduceAdd, Int.reduceSub, Int.reduceMul, Int.reduceNeg, reduceCtorEq, Option.bind_some, Option.map_some, List.length_cons, List.length_nil, vcM, List.getElem?_toArray, List.getElem?_cons_zero, List.getElem?_cons_succ]
  have hE : Ext w ((w.alloc (Obj.cells #[x, Value.int IntKind.i64 ↑a, Value.int IntKind.i64 e] 49)).alloc (Obj.cells #[Value.slice none 0 0, Value.int IntKind.i64 0, Value.int IntKind.i64 0] 49)) := by (repeat' first | exact Keep.refl _ _ | assumption | refine Keep.drew ?_ | refine Keep.alloc ?_ _ | refine Keep.putN ?_ _ ?_ | refine Keep.setCell ?_ _ ?_ | refine Keep.setO ?_ _ ?_ | exact fun _ => Or.inl rfl | exact fun _ => Or.inr rfl | exact fun _ => rfl | (intro hh; exfalso; ((try simp only [vcS] at hh) <;> omega)))
  have hps : w.heap.size ≠ w.heap.size + 1 := by omega
  have hpo : w.heap.size ≤ w.heap.size := by omega
  have hpo5 : w.heap.size ≤ w.heap.size + 1 := by omega
  generalize hp2 : w.heap.size = p2 at h2 h5 hps hpo hpo5 ⊢
  generalize hp5 : p2 + 1 = p5 at h5 hps hpo5 ⊢
  generalize World.alloc _ _ = w1 at h2 h5 hE ⊢
  have hput : ∀ (wz : World) (c0 c1 c2 : Value), wz.heap[p5]? = some (.cells #[.slice none 0 0, .int .i64 0, .int .i64 0] 49 (0, 0)) → rdO (wz.drew.putN p5 0 #[c0, c1, c2]).heap[p5]? 0 3 = some #[c0, c1, c2] := fun wz c0 c1 c2 h => rdO_put (w := wz.drew) h rfl rfl
  have hlt5 : w.heap.size ≤ p5 := by omega
  (refine W_at c47_ok ?_; refine ⟨_, rfl, ?_⟩; simp (disch := first | omega | assumption | rfl | (simp only [vcS] <;> omega) | fail) only [↓ptV_l, ↓vcA, vcB, ↓vcD, vcE, ↓reduceIte, Nat.reduceEqDiff, Nat.reduceAdd, Nat.reduceMul, Nat.reduceLeDiff, Int.reduceLE, Int.reduceLT, Int.reduceEq, Int.reduceToNat, Int.reduceAdd, Int.reduceSub, Int.reduceMul, Int.reduceNeg, reduceCtorEq, Option.bind_some, Option.map_some, List.length_cons, List.length_nil, vcM, List.getElem?_toArray, List.getElem?_cons_zero, List.getElem?_cons_succ, h2])
  by_cases he : e = 0
  · subst he
    have hdl : (bs.drop a).length = bs.length - a := List.length_drop
    have hws : IntKind.i64.wrap ((bs.length : Int) - a) = bs.length - a := wrap_i64 (by omega) (by omega)
    (refine W_at c47_ok ?_; refine ⟨_, rfl, ?_⟩; simp (disch := first | omega | assumption | rfl | (simp only [vcS] <;> omega) | fail) only [↓ptV_l, ↓vcA, vcB, ↓vcD, vcE, ↓reduceIte, Nat.reduceEqDiff, Nat.reduceAdd, Nat.reduceMul, Nat.reduceLeDiff, Int.reduceLE, Int.reduceLT, Int.reduceEq, Int.reduceToNat, Int.reduceAdd, Int.reduceSub, Int.reduceMul, Int.reduceNeg, reduceCtorEq, Option.bind_some, Option.map_some, List.length_cons, List.length_nil, vcM, List.getElem?_toArray, List.getElem?_cons_zero, List.getElem?_cons_succ])
    (refine W_at c47_ok ?_; refine ⟨_, rfl, ?_⟩; simp (disch := first | omega | assumption | rfl | (simp only [vcS] <;> omega) | fail) only [↓ptV_l, ↓vcA, vcB, ↓vcD, vcE, ↓reduceIte, Nat.reduceEqDiff, Nat.reduceAdd, Nat.reduceMul, Nat.reduceLeDiff, Int.reduceLE, Int.reduceLT, Int.reduceEq, Int.reduceToNat, Int.reduceAdd, Int.reduceSub, Int.reduceMul, Int.reduceNeg, reduceCtorEq, Option.bind_some, Option.map_some, List.length_cons, List.length_nil, vcM, List.getElem?_toArray, List.getElem?_cons_zero, List.getElem?_cons_succ, h2, hlen, hws])
    by_cases hgt : (bs.length : Int) - a < n
    · have hr : rawR n (bs.drop a) = .error 4 := by rw [rawR, if_neg (by omega)]
      rw [hr]
      (refine W_at c47_ok ?_; refine ⟨_, rfl, ?_⟩; simp (disch := first | omega | assumption | rfl | (simp only [vcS] <;> omega) | fail) only [↓ptV_l, ↓vcA, vcB, ↓vcD, vcE, ↓reduceIte, Nat.reduceEqDiff, Nat.reduceAdd, Nat.reduceMul, Nat.reduceLeDiff, Int.reduceLE, Int.reduceLT, Int.reduceEq, Int.reduceToNat, Int.reduceAdd, Int.reduceSub, Int.reduceMul, Int.reduceNeg, reduceCtorEq, Option.bind_some, Option.map_some, List.length_cons, List.length_nil, vcM, List.getElem?_toArray, List.getElem?_cons_zero, List.getElem?_cons_succ, hgt])
      (refine W_at c47_ok ?_; refine ⟨_, rfl, ?_⟩; simp (disch := first | omega | assumption | rfl | (simp only [vcS] <;> omega) | fail) only [↓ptV_l, ↓vcA, vcB, ↓vcD, vcE, ↓reduceIte, Nat.reduceEqDiff, Nat.reduceAdd, Nat.reduceMul, Nat.reduceLeDiff, Int.reduceLE, Int.reduceLT, Int.reduceEq, Int.reduceToNat, Int.reduceAdd, Int.reduceSub, Int.reduceMul, Int.reduceNeg, reduceCtorEq, Option.bind_some, Option.map_some, List.length_cons, List.length_nil, vcM, List.getElem?_toArray, List.getElem?_cons_zero, List.getElem?_cons_succ, h2])
      refine ⟨wr1_of h2 (by simp), ?_⟩
      have h2' : (w1.setCell ⟨p2, 2, none⟩ (.int .i64 4)).heap[p2]? = some (.cells #[x, .int .i64 a, .int .i64 4] 49 (0, 0)) := by rw [heap_setCell_eq h2]; rfl
      have h5' : (w1.setCell ⟨p2, 2, none⟩ (.int .i64 4)).heap[p5]? = some (.cells #[.slice none 0 0, .int .i64 0, .int .i64 0] 49 (0, 0)) := by rw [heap_setCell_ne _ _ _ _ _ _ (Ne.symm hps)]; exact h5
      have hE' : Ext w (w1.setCell ⟨p2, 2, none⟩ (.int .i64 4)) := hE.setCell _ (by omega)
      generalize World.setCell _ _ _ = w2 at h2' h5' hE' ⊢
      (refine W_at c47_ok ?_; refine ⟨_, rfl, ?_⟩; simp (disch := first | omega | assumption | rfl | (simp only [vcS] <;> omega) | fail) only [↓ptV_l, ↓vcA, vcB, ↓vcD, vcE, ↓reduceIte, Nat.reduceEqDiff, Nat.reduceAdd, Nat.reduceMul, Nat.reduceLeDiff, Int.reduceLE, Int.reduceLT, Int.reduceEq, Int.reduceToNat, Int.reduceAdd, Int.reduceSub, Int.reduceMul, Int.reduceNeg, reduceCtorEq, Option.bind_some, Option.map_some, List.length_cons, List.length_nil, vcM, List.getElem?_toArray, List.getElem?_cons_zero, List.getElem?_cons_succ, h2', h5', rdO3, hx1])
      (refine W_at c47_ok ?_; refine ⟨_, rfl, ?_⟩; simp (disch := first | omega | assumption | rfl | (simp only [vcS] <;> omega) | fail) only [↓ptV_l, ↓vcA, vcB, ↓vcD, vcE, ↓reduceIte, Nat.reduceEqDiff, Nat.reduceAdd, Nat.reduceMul, Nat.reduceLeDiff, Int.reduceLE, Int.reduceLT, Int.reduceEq, Int.reduceToNat, Int.reduceAdd, Int.reduceSub, Int.reduceMul, Int.reduceNeg, reduceCtorEq, Option.bind_some, Option.map_some, List.length_cons, List.length_nil, vcM, List.getElem?_toArray, List.getElem?_cons_zero, List.getElem?_cons_succ, h5', hput, Ret_returned])
      exact ⟨by (repeat' first | exact Keep.refl _ _ | assumption | refine Keep.drew ?_ | refine Keep.alloc ?_ _ | refine Keep.putN ?_ _ ?_ | refine Keep.setCell ?_ _ ?_ | refine Keep.setO ?_ _ ?_ | exact fun _ => Or.inl rfl | exact fun _ => Or.inr rfl | exact fun _ => rfl | (intro hh; exfalso; ((try simp only [vcS] at hh) <;> omega))), _, a, _, rfl, ⟨Nat.le_refl _, ha⟩, fun h => absurd rfl h, fun _ _ _ h => (by cases h), fun _ k h => (by cases h; exact ⟨rfl, rfl, rfl⟩)⟩
    (refine W_at c47_ok ?_; refine ⟨_, rfl, ?_⟩; simp (disch := first | omega | assumption | rfl | (simp only [vcS] <;> omega) | fail) only [↓ptV_l, ↓vcA, vcB, ↓vcD, vcE, ↓reduceIte, Nat.reduceEqDiff, Nat.reduceAdd, Nat.reduceMul, Nat.reduceLeDiff, Int.reduceLE, Int.reduceLT, Int.reduceEq, Int.reduceToNat, Int.reduceAdd, Int.reduceSub, Int.reduceMul, Int.reduceNeg, reduceCtorEq, Option.bind_some, Option.map_some, List.length_cons, List.length_nil, vcM, List.getElem?_toArray, List.getElem?_cons_zero, List.getElem?_cons_succ, hgt])
    (refine W_at c47_ok ?_; refine ⟨_, rfl, ?_⟩; simp (disch := first | omega | assumption | rfl | (simp only [vcS] <;> omega) | fail) only [↓ptV_l, ↓vcA, vcB, ↓vcD, vcE, ↓reduceIte, Nat.reduceEqDiff, Nat.reduceAdd, Nat.reduceMul, Nat.reduceLeDiff, Int.reduceLE, Int.reduceLT, Int.reduceEq, Int.reduceToNat, Int.reduceAdd, Int.reduceSub, Int.reduceMul, Int.reduceNeg, reduceCtorEq, Option.bind_some, Option.map_some, List.length_cons, List.length_nil, vcM, List.getElem?_toArray, List.getElem?_cons_zero, List.getElem?_cons_succ])
    by_cases hle : n ≤ 0
    · have hr : rawR n (bs.drop a) = .ok ([], bs.drop a) := by rw [rawR, if_pos (by omega), show n.toNat = 0 by omega]; rfl
      rw [hr]
      (refine W_at c47_ok ?_; refine ⟨_, rfl, ?_⟩; simp (disch := first | omega | assumption | rfl | (simp only [vcS] <;> omega) | fail) only [↓ptV_l, ↓vcA, vcB, ↓vcD, vcE, ↓reduceIte, Nat.reduceEqDiff, Nat.reduceAdd, Nat.reduceMul, Nat.reduceLeDiff, Int.reduceLE, Int.reduceLT, Int.reduceEq, Int.reduceToNat, Int.reduceAdd, Int.reduceSub, Int.reduceMul, Int.reduceNeg, reduceCtorEq, Option.bind_some, Option.map_some, List.length_cons, List.length_nil, vcM, List.getElem?_toArray, List.getElem?_cons_zero, List.getElem?_cons_succ, hle])
      (refine W_at c47_ok ?_; refine ⟨_, rfl, ?_⟩; simp (disch := first | omega | assumption | rfl | (simp only [vcS] <;> omega) | fail) only [↓ptV_l, ↓vcA, vcB, ↓vcD, vcE, ↓reduceIte, Nat.reduceEqDiff, Nat.reduceAdd, Nat.reduceMul, Nat.reduceLeDiff, Int.reduceLE, Int.reduceLT, Int.reduceEq, Int.reduceToNat, Int.reduceAdd, Int.reduceSub, Int.reduceMul, Int.reduceNeg, reduceCtorEq, Option.bind_some, Option.map_some, List.length_cons, List.length_nil, vcM, List.getElem?_toArray, List.getElem?_cons_zero, List.getElem?_cons_succ, h2, h5, rdO3, hx1])
      (refine W_at c47_ok ?_; refine ⟨_, rfl, ?_⟩; simp (disch := first | omega | assumption | rfl | (simp only [vcS] <;> omega) | fail) only [↓ptV_l, ↓vcA, vcB, ↓vcD, vcE, ↓reduceIte, Nat.reduceEqDiff, Nat.reduceAdd, Nat.reduceMul, Nat.reduceLeDiff, Int.reduceLE, Int.reduceLT, Int.reduceEq, Int.reduceToNat, Int.reduceAdd, Int.reduceSub, Int.reduceMul, Int.reduceNeg, reduceCtorEq, Option.bind_some, Option.map_some, List.length_cons, List.length_nil, vcM, List.getElem?_toArray, List.getElem?_cons_zero, List.getElem?_cons_succ, h5, hput, Ret_returned])
      exact ⟨by (repeat' first | exact Keep.refl _ _ | assumption | refine Keep.drew ?_ | refine Keep.alloc ?_ _ | refine Keep.putN ?_ _ ?_ | refine Keep.setCell ?_ _ ?_ | refine Keep.setO ?_ _ ?_ | exact fun _ => Or.inl rfl | exact fun _ => Or.inr rfl | exact fun _ => rfl | (intro hh; exfalso; ((try simp only [vcS] at hh) <;> omega))), _, a, _, rfl, ⟨Nat.le_refl _, ha⟩, fun h => absurd rfl h, fun _ _ _ h => (by cases h; exact ⟨⟨Own1.nil _, fun g hg => (by cases hg)⟩, rfl, rfl⟩), fun _ k h => (by cases h)⟩
    have hr : rawR n (bs.drop a) = .ok ((bs.drop a).take n.toNat, (bs.drop a).drop n.toNat) := by rw [rawR, if_pos (by omega)]
    have h20 : w1.heap[p2]? ≠ w1.heap[w1.heap.size]? := by rw [h2]; simp
    have hp2l : p2 ≠ w1.heap.size := fun h => h20 (by rw [h])
    have hwa : IntKind.i64.wrap ((a : Int) + n) = ((a + n.toNat : Nat) : Int) := by rw [wrap_i64 (by omega) (by omega)]; omega
    have hsl : 0 ≤ (a : Int) ∧ (a : Int) ≤ ((a + n.toNat : Nat) : Int) := by omega
    obtain ⟨⟨q, c, rfl, hc⟩, hm, _⟩ := id hx
    have hsl3 : 0 ≤ ((a + n.toNat : Nat) : Int) := by omega
    have hsl2 : 0 ≤ (a : Int) ∧ (a : Int) ≤ ((a + n.toNat : Nat) : Int) ∧ ((a + n.toNat : Nat) : Int) ≤ c := by omega
    have hcut := (hx.ext hE).cut (l := a) (j := a + n.toNat) (by omega) (by omega)
    have hce : (bs.take (a + n.toNat)).drop a = (bs.drop a).take n.toNat := by rw [List.drop_take]; congr 1; omega
    rw [hce] at hcut
    (refine W_at c47_ok ?_; refine ⟨_, rfl, ?_⟩; simp (disch := first | omega | assumption | rfl | (simp only [vcS] <;> omega) | fail) only [↓ptV_l, ↓vcA, vcB, ↓vcD, vcE, ↓reduceIte, Nat.reduceEqDiff, Nat.reduceAdd, Nat.reduceMul, Nat.reduceLeDiff, Int.reduceLE, Int.reduceLT, Int.reduceEq, Int.reduceToNat, Int.reduceAdd, Int.reduceSub, Int.reduceMul, Int.reduceNeg, reduceCtorEq, Option.bind_some, Option.map_some, List.length_cons, List.length_nil, vcM, List.getElem?_toArray, List.getElem?_cons_zero, List.getElem?_cons_succ, hle])
    (refine W_at c47_ok ?_; refine ⟨_, rfl, ?_⟩; simp (disch := first | omega | assumption | rfl | (simp only [vcS] <;> omega) | fail) only [↓ptV_l, ↓vcA, vcB, ↓vcD, vcE, ↓reduceIte, Nat.reduceEqDiff, Nat.reduceAdd, Nat.reduceMul, Nat.reduceLeDiff, Int.reduceLE, Int.reduceLT, Int.reduceEq, Int.reduceToNat, Int.reduceAdd, Int.reduceSub, Int.reduceMul, Int.reduceNeg, reduceCtorEq, Option.bind_some, Option.map_some, List.length_cons, List.length_nil, vcM, List.getElem?_toArray, List.getElem?_cons_zero, List.getElem?_cons_succ, h2, hp2l, hwa, hsl2, hsl3, Int.toNat_natCast])
    have hnl : a + n.toNat - a = n.toNat := by omega
    have hN := New.lit (w := w1) (bs := []) (by simp)
    refine appN hN (hcut.ext ((Keep.refl _ w1).alloc _)) (by simp; omega) fun v w2 g1 g2 g3 => ?_
    have hk12 : Ext w1 w2 := ((Keep.refl _ w1).alloc _).trans g2 fun i hi hb => by cases hb; exact absurd hi (Nat.lt_irrefl _)
    have h2b := hk12.at h2 fun h => h
    have h5b := hk12.at h5 fun h => h
    have hE2 := hE.ext hk12
    (refine W_at c47_ok ?_; refine ⟨_, rfl, ?_⟩; simp (disch := first | omega | assumption | rfl | (simp only [vcS] <;> omega) | fail) only [↓ptV_l, ↓vcA, vcB, ↓vcD, vcE, ↓reduceIte, Nat.reduceEqDiff, Nat.reduceAdd, Nat.reduceMul, Nat.reduceLeDiff, Int.reduceLE, Int.reduceLT, Int.reduceEq, Int.reduceToNat, Int.reduceAdd, Int.reduceSub, Int.reduceMul, Int.reduceNeg, reduceCtorEq, Option.bind_some, Option.map_some, List.length_cons, List.length_nil, vcM, List.getElem?_toArray, List.getElem?_cons_zero, List.getElem?_cons_succ, h2b, hwa])
    refine ⟨wr1_of h2b (by simp), ?_⟩
    have hv : ∀ g, blk v g → w1.heap.size ≤ g := fun g hg => by
      rcases g3 g hg with h | h
      · cases h; exact Nat.le_refl _
      · have := size_alloc w1 (.cells #[] 5); omega
    have hsw : w.heap.size + 2 ≤ w1.heap.size := by have := lt_of_heap h5; omega
    have h2' : (w2.setCell ⟨p2, 1, none⟩ (.int .i64 (a + n.toNat : Nat))).heap[p2]? = some (.cells #[.slice q bs.length c, .int .i64 (a + n.toNat : Nat), .int .i64 0] 49 (0, 0)) := by rw [heap_setCell_eq h2b]; rfl
    have h5' : (w2.setCell ⟨p2, 1, none⟩ (.int .i64 (a + n.toNat : Nat))).heap[p5]? = some (.cells #[.slice none 0 0, .int .i64 0, .int .i64 0] 49 (0, 0)) := by rw [heap_setCell_ne _ _ _ _ _ _ (Ne.symm hps)]; exact h5b
    have hE' : Ext w (w2.setCell ⟨p2, 1, none⟩ (.int .i64 (a + n.toNat : Nat))) := hE2.setCell _ (by omega)
    have hk' : Keep (fun i => i = p2) w2 (w2.setCell ⟨p2, 1, none⟩ (.int .i64 (a + n.toNat : Nat))) := (Keep.refl _ w2).setCell _ fun _ => rfl
    generalize World.setCell _ _ _ = w3 at h2' h5' hE' hk' ⊢
    (refine W_at c47_ok ?_; refine ⟨_, rfl, ?_⟩; simp (disch := first | omega | assumption | rfl | (simp only [vcS] <;> omega) | fail) only [↓ptV_l, ↓vcA, vcB, ↓vcD, vcE, ↓reduceIte, Nat.reduceEqDiff, Nat.reduceAdd, Nat.reduceMul, Nat.reduceLeDiff, Int.reduceLE, Int.reduceLT, Int.reduceEq, Int.reduceToNat, Int.reduceAdd, Int.reduceSub, Int.reduceMul, Int.reduceNeg, reduceCtorEq, Option.bind_some, Option.map_some, List.length_cons, List.length_nil, vcM, List.getElem?_toArray, List.getElem?_cons_zero, List.getElem?_cons_succ, h2', h5', rdO3, hx1])
    (refine W_at c47_ok ?_; refine ⟨_, rfl, ?_⟩; simp (disch := first | omega | assumption | rfl | (simp only [vcS] <;> omega) | fail) only [↓ptV_l, ↓vcA, vcB, ↓vcD, vcE, ↓reduceIte, Nat.reduceEqDiff, Nat.reduceAdd, Nat.reduceMul, Nat.reduceLeDiff, Int.reduceLE, Int.reduceLT, Int.reduceEq, Int.reduceToNat, Int.reduceAdd, Int.reduceSub, Int.reduceMul, Int.reduceNeg, reduceCtorEq, Option.bind_some, Option.map_some, List.length_cons, List.length_nil, vcM, List.getElem?_toArray, List.getElem?_cons_zero, List.getElem?_cons_succ, h5', hput, Ret_returned])
    have hk3 : Keep (fun i => i = p2 ∨ i = p5) w2 (w3.drew.putN p5 0 #[.slice q bs.length c, .int .i64 (a + n.toNat : Nat), .int .i64 0]) :=
      ((hk'.mono fun _ h => .inl h).drew).putN _ fun _ => .inr rfl
    have hEn : Ext w (w3.drew.putN p5 0 #[.slice q bs.length c, .int .i64 (a + n.toNat : Nat), .int .i64 0]) := by (repeat' first | exact Keep.refl _ _ | assumption | refine Keep.drew ?_ | refine Keep.alloc ?_ _ | refine Keep.putN ?_ _ ?_ | refine Keep.setCell ?_ _ ?_ | refine Keep.setO ?_ _ ?_ | exact fun _ => Or.inl rfl | exact fun _ => Or.inr rfl | exact fun _ => rfl | (intro hh; exfalso; ((try simp only [vcS] at hh) <;> omega)))
    refine ⟨hEn, v, a + n.toNat, 0, rfl, by omega, fun h => absurd rfl h, fun _ y rest h => ?_, fun _ k h => by rw [hr] at h; cases h⟩
    rw [hr] at h; cases h
    refine ⟨⟨?_, fun g hg => by have := hv g hg; omega⟩, by rw [List.drop_drop], rfl⟩
    rw [List.nil_append] at g1
    exact g1.own.keep hk3 fun g hg => by have := hv g hg; have := lt_of_heap h2; have := lt_of_heap h5; omega
  · (refine W_at c47_ok ?_; refine ⟨_, rfl, ?_⟩; simp (disch := first | omega | assumption | rfl | (simp only [vcS] <;> omega) | fail) only [↓ptV_l, ↓vcA, vcB, ↓vcD, vcE, ↓reduceIte, Nat.reduceEqDiff, Nat.reduceAdd, Nat.reduceMul, Nat.reduceLeDiff, Int.reduceLE, Int.reduceLT, Int.reduceEq, Int.reduceToNat, Int.reduceAdd, Int.reduceSub, Int.reduceMul, Int.reduceNeg, reduceCtorEq, Option.bind_some, Option.map_some, List.length_cons, List.length_nil, vcM, List.getElem?_toArray, List.getElem?_cons_zero, List.getElem?_cons_succ, he])
    (refine W_at c47_ok ?_; refine ⟨_, rfl, ?_⟩; simp (disch := first | omega | assumption | rfl | (simp only [vcS] <;> omega) | fail) only [↓ptV_l, ↓vcA, vcB, ↓vcD, vcE, ↓reduceIte, Nat.reduceEqDiff, Nat.reduceAdd, Nat.reduceMul, Nat.reduceLeDiff, Int.reduceLE, Int.reduceLT, Int.reduceEq, Int.reduceToNat, Int.reduceAdd, Int.reduceSub, Int.reduceMul, Int.reduceNeg, reduceCtorEq, Option.bind_some, Option.map_some, List.length_cons, List.length_nil, vcM, List.getElem?_toArray, List.getElem?_cons_zero, List.getElem?_cons_succ, h2, h5, rdO3, hx1])
    (refine W_at c47_ok ?_; refine ⟨_, rfl, ?_⟩; simp (disch := first | omega | assumption | rfl | (simp only [vcS] <;> omega) | fail) only [↓ptV_l, ↓vcA, vcB, ↓vcD, vcE, ↓reduceIte, Nat.reduceEqDiff, Nat.reduceAdd, Nat.reduceMul, Nat.reduceLeDiff, Int.reduceLE, Int.reduceLT, Int.reduceEq, Int.reduceToNat, Int.reduceAdd, Int.reduceSub, Int.reduceMul, Int.reduceNeg, reduceCtorEq, Option.bind_some, Option.map_some, List.length_cons, List.length_nil, vcM, List.getElem?_toArray, List.getElem?_cons_zero, List.getElem?_cons_succ, h5, hput, Ret_returned])
    exact ⟨by (repeat' first | exact Keep.refl _ _ | assumption | refine Keep.drew ?_ | refine Keep.alloc ?_ _ | refine Keep.putN ?_ _ ?_ | refine Keep.setCell ?_ _ ?_ | refine Keep.setO ?_ _ ?_ | exact fun _ => Or.inl rfl | exact fun _ => Or.inr rfl | exact fun _ => rfl | (intro hh; exfalso; ((try simp only [vcS] at hh) <;> omega))), _, a, _, rfl, ⟨Nat.le_refl _, ha⟩, fun _ => ⟨rfl, rfl, rfl⟩, fun h => absurd h he, fun h => absurd h he⟩
end Go.Proofs
