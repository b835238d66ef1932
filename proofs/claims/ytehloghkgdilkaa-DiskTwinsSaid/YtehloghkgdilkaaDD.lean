/- The law DiskPlays: its walk. -/
import Derived.Test.YtehloghkgdilkaaDC
set_option linter.unusedSimpArgs false
set_option linter.unusedVariables false
set_option linter.constructorNameAsVariable false
namespace Go.Proofs
open Go.Vc
set_option maxRecDepth 10000

def abc : List Int := [97, 98, 99]
/-- The bytes of a text that stands in the program. -/
theorem mks_rd {w : World} {bs : List Int} (hn : bs.length ≤ maxLen) : Rd (w.alloc (.cells (bv bs).toArray 5 ((bv bs).toArray.size, (bv bs).toArray.size + 1))) (.slice (some ⟨w.heap.size, 0, none⟩) bs.length bs.length) bs := by
  refine ⟨⟨_, _, rfl, Nat.le_refl _⟩, hn, ?_⟩
  simp only [rdS]
  split
  · rename_i h0
    have : bs = [] := List.eq_nil_of_length_eq_zero h0
    subst this; rfl
  · rw [rdN_heap, heap_new _ _ _ rfl, rdO_some _ _ _ _ _ (by simp [bv_len]), Nat.zero_add, ext_all _ _ (by simp [bv_len])]
def awD : DS := crashD (writeD (newD 4) 3 abc).1 0 2
theorem aw_e : readE awD 3 = 0 := by decide +kernel
theorem aw_b : readB awD 3 = 97 :: 98 :: List.replicate 62 0 := by decide +kernel
theorem aw_w : (writeD (newD 4) 3 abc).2 = 0 := by decide +kernel
theorem aw_n : ((newD 4).n : Int) = 4 := by decide +kernel
theorem newD_ok (n : Int) : (newD n).Ok := ⟨by simp only [newD]; omega, fun _ => zsec_ok, fun _ h => (by cases h), Nat.zero_le _, by simp [newD]⟩
set_option maxHeartbeats 1600000 in
theorem awake_ok (w : World) : Calls Try.prog 6 #[] w (Ret fun u w' => u = .bool true ∧ Ext w w') := by
  refine calls_of_cfg c6_ok (Nat.le_of_ble_eq_true rfl) ?_
  simp only [argE_nil, argE_cons, Nat.reduceAdd, Nat.zero_add]
  (refine W_at c6_ok ?_; refine ⟨_, rfl, ?_⟩; simp (disch := first | omega | assumption | rfl | (simp only [vcS] <;> omega) | fail) only [↓ptV_l, ↓vcA, vcB, ↓vcD, vcE, ↓reduceIte, Nat.reduceEqDiff, Nat.reduceAdd, Nat.reduceMul, Nat.reduceLeDiff, Int.reduceLE, Int.reduceLT, Int.reduceEq, Int.reduceToNat, Int.reduceAdd, Int.reduceSub, Int.reduceMul, Int.reduceNeg, reduceCtorEq, Option.bind_some, Option.map_some, List.length_cons, List.length_nil, vcM, List.getElem?_toArray, List.getElem?_cons_zero, List.getElem?_cons_succ])
  (refine W_at c6_ok ?_; refine ⟨_, rfl, ?_⟩; simp (disch := first | omega | assumption | rfl | (simp only [vcS] <;> omega) | fail) only [↓ptV_l, ↓vcA, vcB, ↓vcD, vcE, ↓reduceIte, Nat.reduceEqDiff, Nat.reduceAdd, Nat.reduceMul, Nat.reduceLeDiff, Int.reduceLE, Int.reduceLT, Int.reduceEq, Int.reduceToNat, Int.reduceAdd, Int.reduceSub, Int.reduceMul, Int.reduceNeg, reduceCtorEq, Option.bind_some, Option.map_some, List.length_cons, List.length_nil, vcM, List.getElem?_toArray, List.getElem?_cons_zero, List.getElem?_cons_succ])
  refine callV_ret (new_ok w 4) ?_
  rintro _ w1 ⟨p, r, rfl, hD1, hE1, hp1, hr1⟩
  first | (simp (disch := first | omega | assumption | rfl | (simp only [vcS] <;> omega) | fail) only [↓ptV_l, ↓vcA, vcB, ↓vcD, vcE, ↓reduceIte, Nat.reduceEqDiff, Nat.reduceAdd, Nat.reduceMul, Nat.reduceLeDiff, Int.reduceLE, Int.reduceLT, Int.reduceEq, Int.reduceToNat, Int.reduceAdd, Int.reduceSub, Int.reduceMul, Int.reduceNeg, reduceCtorEq, Option.bind_some, Option.map_some, List.length_cons, List.length_nil, vcM, List.getElem?_toArray, List.getElem?_cons_zero, List.getElem?_cons_succ]) | skip
  (refine W_at c6_ok ?_; refine ⟨_, rfl, ?_⟩; simp (disch := first | omega | assumption | rfl | (simp only [vcS] <;> omega) | fail) only [↓ptV_l, ↓vcA, vcB, ↓vcD, vcE, ↓reduceIte, Nat.reduceEqDiff, Nat.reduceAdd, Nat.reduceMul, Nat.reduceLeDiff, Int.reduceLE, Int.reduceLT, Int.reduceEq, Int.reduceToNat, Int.reduceAdd, Int.reduceSub, Int.reduceMul, Int.reduceNeg, reduceCtorEq, Option.bind_some, Option.map_some, List.length_cons, List.length_nil, vcM, List.getElem?_toArray, List.getElem?_cons_zero, List.getElem?_cons_succ, eqP_pn])
  refine callV_ret (sectors_ok w1 p r _ _ hD1) ?_
  rintro _ wq ⟨rfl, hw⟩
  obtain rfl : w1 = wq := hw.symm
  rw [aw_n]
  simp (disch := first | omega | assumption | rfl | (simp only [vcS] <;> omega) | fail) only [↓ptV_l, ↓vcA, vcB, ↓vcD, vcE, ↓reduceIte, Nat.reduceEqDiff, Nat.reduceAdd, Nat.reduceMul, Nat.reduceLeDiff, Int.reduceLE, Int.reduceLT, Int.reduceEq, Int.reduceToNat, Int.reduceAdd, Int.reduceSub, Int.reduceMul, Int.reduceNeg, reduceCtorEq, Option.bind_some, Option.map_some, List.length_cons, List.length_nil, vcM, List.getElem?_toArray, List.getElem?_cons_zero, List.getElem?_cons_succ, eq_self]
  refine ⟨_, _, _, _, rfl, rfl, ?_⟩
  have hR3 : Rd (w1.alloc (.cells (bv abc).toArray 5 ((bv abc).toArray.size, (bv abc).toArray.size + 1))) (.slice (some ⟨w1.heap.size, 0, none⟩) 3 3) abc := mks_rd (w := w1) (bs := abc) (by decide)
  have hE3 : Ext w1 (w1.alloc (.cells (bv abc).toArray 5 ((bv abc).toArray.size, (bv abc).toArray.size + 1))) := (Keep.refl _ w1).alloc _
  have hD3 := hD1.ext hE3
  first | (simp (disch := first | omega | assumption | rfl | (simp only [vcS] <;> omega) | fail) only [↓ptV_l, ↓vcA, vcB, ↓vcD, vcE, ↓reduceIte, Nat.reduceEqDiff, Nat.reduceAdd, Nat.reduceMul, Nat.reduceLeDiff, Int.reduceLE, Int.reduceLT, Int.reduceEq, Int.reduceToNat, Int.reduceAdd, Int.reduceSub, Int.reduceMul, Int.reduceNeg, reduceCtorEq, Option.bind_some, Option.map_some, List.length_cons, List.length_nil, vcM, List.getElem?_toArray, List.getElem?_cons_zero, List.getElem?_cons_succ]) | skip
  refine callV_ret (write_ok (w1.alloc (.cells (bv abc).toArray 5 ((bv abc).toArray.size, (bv abc).toArray.size + 1))) p r _ _ 3 _ abc hD3 (newD_ok 4) (by simp [newD]) hR3 (fun q n c e hb => ?_) (by decide)) ?_
  · cases e
    have h1 := hD1.lt hb
    exact absurd h1 (by show ¬ w1.heap.size < w1.heap.size; omega)
  generalize World.alloc _ _ = w3 at hR3 hE3 hD3
  rintro _ w4 ⟨rfl, qv4, hD4, hK4, hN4⟩
  rw [aw_w]
  simp (disch := first | omega | assumption | rfl | (simp only [vcS] <;> omega) | fail) only [↓ptV_l, ↓vcA, vcB, ↓vcD, vcE, ↓reduceIte, Nat.reduceEqDiff, Nat.reduceAdd, Nat.reduceMul, Nat.reduceLeDiff, Int.reduceLE, Int.reduceLT, Int.reduceEq, Int.reduceToNat, Int.reduceAdd, Int.reduceSub, Int.reduceMul, Int.reduceNeg, reduceCtorEq, Option.bind_some, Option.map_some, List.length_cons, List.length_nil, vcM, List.getElem?_toArray, List.getElem?_cons_zero, List.getElem?_cons_succ, eq_self]
  (refine W_at c6_ok ?_; refine ⟨_, rfl, ?_⟩; simp (disch := first | omega | assumption | rfl | (simp only [vcS] <;> omega) | fail) only [↓ptV_l, ↓vcA, vcB, ↓vcD, vcE, ↓reduceIte, Nat.reduceEqDiff, Nat.reduceAdd, Nat.reduceMul, Nat.reduceLeDiff, Int.reduceLE, Int.reduceLT, Int.reduceEq, Int.reduceToNat, Int.reduceAdd, Int.reduceSub, Int.reduceMul, Int.reduceNeg, reduceCtorEq, Option.bind_some, Option.map_some, List.length_cons, List.length_nil, vcM, List.getElem?_toArray, List.getElem?_cons_zero, List.getElem?_cons_succ])
  (refine W_at c6_ok ?_; refine ⟨_, rfl, ?_⟩; simp (disch := first | omega | assumption | rfl | (simp only [vcS] <;> omega) | fail) only [↓ptV_l, ↓vcA, vcB, ↓vcD, vcE, ↓reduceIte, Nat.reduceEqDiff, Nat.reduceAdd, Nat.reduceMul, Nat.reduceLeDiff, Int.reduceLE, Int.reduceLT, Int.reduceEq, Int.reduceToNat, Int.reduceAdd, Int.reduceSub, Int.reduceMul, Int.reduceNeg, reduceCtorEq, Option.bind_some, Option.map_some, List.length_cons, List.length_nil, vcM, List.getElem?_toArray, List.getElem?_cons_zero, List.getElem?_cons_succ])
  have hdb : ∀ g, DB p r (.slice none 0 0) g → w.heap.size ≤ g := fun g hg => by
    rcases hg with h | h | h
    · omega
    · omega
    · cases h
  have hE4 : Ext w w4 := (hE1.ext hE3).trans hK4 fun i hi hs => by have := hdb i hs; omega
  have hok4 : (writeD (newD 4) 3 abc).1.Ok := writeD_ok (newD_ok 4) (by simp [newD]) (by intro b hb; simp [abc] at hb; omega)
  refine callV_ret (crash_ok w4 p r qv4 _ 0 2 hD4 hok4) ?_
  rintro _ w5 ⟨qv5, hD5, hK5, hN5⟩
  have hE5 : Ext w w5 := hE4.trans hK5 fun i hi hs => by
    rcases hs with h | h | h
    · omega
    · omega
    · have h2 := hE1.size
      have h3 := hE3.size
      rcases hN4 i h with h | h
      · cases h
      · omega
  first | (simp (disch := first | omega | assumption | rfl | (simp only [vcS] <;> omega) | fail) only [↓ptV_l, ↓vcA, vcB, ↓vcD, vcE, ↓reduceIte, Nat.reduceEqDiff, Nat.reduceAdd, Nat.reduceMul, Nat.reduceLeDiff, Int.reduceLE, Int.reduceLT, Int.reduceEq, Int.reduceToNat, Int.reduceAdd, Int.reduceSub, Int.reduceMul, Int.reduceNeg, reduceCtorEq, Option.bind_some, Option.map_some, List.length_cons, List.length_nil, vcM, List.getElem?_toArray, List.getElem?_cons_zero, List.getElem?_cons_succ]) | skip
  (refine W_at c6_ok ?_; refine ⟨_, rfl, ?_⟩; simp (disch := first | omega | assumption | rfl | (simp only [vcS] <;> omega) | fail) only [↓ptV_l, ↓vcA, vcB, ↓vcD, vcE, ↓reduceIte, Nat.reduceEqDiff, Nat.reduceAdd, Nat.reduceMul, Nat.reduceLeDiff, Int.reduceLE, Int.reduceLT, Int.reduceEq, Int.reduceToNat, Int.reduceAdd, Int.reduceSub, Int.reduceMul, Int.reduceNeg, reduceCtorEq, Option.bind_some, Option.map_some, List.length_cons, List.length_nil, vcM, List.getElem?_toArray, List.getElem?_cons_zero, List.getElem?_cons_succ])
  refine callV_ret (read_ok w5 p r qv5 _ 3 hD5 (crashD_ok hok4 0 2)) ?_
  rintro _ w6 ⟨v, rfl, hN6⟩
  have e1 : readE (crashD (writeD (newD 4) 3 abc).1 0 2) 3 = 0 := aw_e
  have e2 : readB (crashD (writeD (newD 4) 3 abc).1 0 2) 3 = 97 :: 98 :: List.replicate 62 0 := aw_b
  rw [e1]
  rw [e2] at hN6
  have hrd := hN6.own.rd
  obtain ⟨b, o, c, rfl, hc1⟩ := hrd.at (i := 1) (by simp)
  obtain ⟨b', o', c', e, hc2⟩ := hrd.at (i := 2) (by simp)
  injection e with e1 _ _
  injection e1 with e1
  injection e1 with e1 e2
  subst e1 e2
  have h64 : (97 :: 98 :: List.replicate 62 (0 : Int)).length = 64 := by simp
  have h1 : (97 :: 98 :: List.replicate 62 (0 : Int))[1]'(by simp) = 98 := rfl
  have h2 : (97 :: 98 :: List.replicate 62 (0 : Int))[2]'(by simp) = 0 := by decide +kernel
  rw [h1] at hc1
  rw [h2] at hc2
  have t1 : ((1 : Int)).toNat = 1 := rfl
  have t2 : ((2 : Int)).toNat = 2 := rfl
  rw [h64]
  first | (simp (disch := first | omega | assumption | rfl | (simp only [vcS] <;> omega) | fail) only [↓ptV_l, ↓vcA, vcB, ↓vcD, vcE, ↓reduceIte, Nat.reduceEqDiff, Nat.reduceAdd, Nat.reduceMul, Nat.reduceLeDiff, Int.reduceLE, Int.reduceLT, Int.reduceEq, Int.reduceToNat, Int.reduceAdd, Int.reduceSub, Int.reduceMul, Int.reduceNeg, reduceCtorEq, Option.bind_some, Option.map_some, List.length_cons, List.length_nil, vcM, List.getElem?_toArray, List.getElem?_cons_zero, List.getElem?_cons_succ]) | skip
  have i1 : 0 ≤ (1 : Int) ∧ (1 : Int) < ((64 : Nat) : Int) := by omega
  have i2 : 0 ≤ (2 : Int) ∧ (2 : Int) < ((64 : Nat) : Int) := by omega
  have hcast : ((64 : Nat) : Int) = 64 := rfl
  (refine W_at c6_ok ?_; refine ⟨_, rfl, ?_⟩; simp (disch := first | omega | assumption | rfl | (simp only [vcS] <;> omega) | fail) only [↓ptV_l, ↓vcA, vcB, ↓vcD, vcE, ↓reduceIte, Nat.reduceEqDiff, Nat.reduceAdd, Nat.reduceMul, Nat.reduceLeDiff, Int.reduceLE, Int.reduceLT, Int.reduceEq, Int.reduceToNat, Int.reduceAdd, Int.reduceSub, Int.reduceMul, Int.reduceNeg, reduceCtorEq, Option.bind_some, Option.map_some, List.length_cons, List.length_nil, vcM, List.getElem?_toArray, List.getElem?_cons_zero, List.getElem?_cons_succ, i1, i2, hcast, hc1, hc2, t1, t2, eq_self, Nat.mul_one])
  (refine W_at c6_ok ?_; refine ⟨_, rfl, ?_⟩; simp (disch := first | omega | assumption | rfl | (simp only [vcS] <;> omega) | fail) only [↓ptV_l, ↓vcA, vcB, ↓vcD, vcE, ↓reduceIte, Nat.reduceEqDiff, Nat.reduceAdd, Nat.reduceMul, Nat.reduceLeDiff, Int.reduceLE, Int.reduceLT, Int.reduceEq, Int.reduceToNat, Int.reduceAdd, Int.reduceSub, Int.reduceMul, Int.reduceNeg, reduceCtorEq, Option.bind_some, Option.map_some, List.length_cons, List.length_nil, vcM, List.getElem?_toArray, List.getElem?_cons_zero, List.getElem?_cons_succ, Ret_returned])
  exact hE5.ext hN6.ext
structure ActAt (w : World) (x : Array Value) (kind n m : Int) (v : Value) (bs : List Int) : Prop where
  eq : x = #[.int .i64 kind, .int .i64 n, .int .i64 m, v]
  rd : Rd w v bs
  byt : byt bs
  n : -9223372036854775808 ≤ n ∧ n ≤ 9223372036854775807
structure ActsAt (w : World) (q : Option Addr) (n c : Nat) (xs : List (Array Value)) : Prop where
  len : xs.length = n
  mx : n ≤ maxLen
  rd : rdS w 4 (.slice q n c) = some (xs.flatMap Array.toList).toArray
  at' : ∀ x ∈ xs, ∃ kind n m v bs, ActAt w x kind n m v bs
theorem rdO_ext {w w' : World} {b x n : Nat} {cs : Array Value} (k : Ext w w') (h : rdO w.heap[b]? x n = some cs) : rdO w'.heap[b]? x n = some cs := by
  cases hb : w.heap[b]? with
  | none => rw [hb] at h; cases h
  | some y => rw [k.at hb (fun h => h)]; rw [hb] at h; exact h
theorem Both_box_ne {w : World} {p r g : Nat} {qv : Value} {d : DS} {c : Array Value} (h : DAt w p r qv d) (hg : w.heap[g]? = some (.cells c 30 (0, 0))) : ¬ DB p r qv g := fun hb => by
  rcases h.kind hb with ⟨es, c', e⟩ | ⟨c', t', e, ht'⟩
  · rw [hg] at e; cases e
  · rw [hg] at e
    rcases ht' with rfl | rfl <;> cases e
/-- An act of the list. -/
theorem ActsAt.act {w w' : World} {q : Option Addr} {n c : Nat} {xs : List (Array Value)} (h : ActsAt w q n c xs) (k : Ext w w') {i : Nat} (hi : i < n) :
    ∃ b o kind a m v bs, q = some ⟨b, o, none⟩ ∧ rdO w'.heap[b]? (o + i * 4) 4 = some #[.int .i64 kind, .int .i64 a, .int .i64 m, v] ∧ Rd w v bs ∧ Go.Proofs.byt bs ∧ (-9223372036854775808 ≤ a ∧ a ≤ 9223372036854775807) := by
  have hl := h.len
  have hr := rdS_keep h.rd k fun _ _ h => h
  have hs : ∀ x ∈ xs, x.size = 4 := fun x hx => by obtain ⟨_, _, _, _, _, e, _⟩ := h.at' x hx; rw [e]; rfl
  obtain ⟨b, o, hq, h1⟩ := rdS_at hr hl hs hi
  obtain ⟨kind, a, m, v, bs, e, h2, h3, h4⟩ := h.at' _ (List.getElem_mem (show i < xs.length by omega))
  rw [e] at h1
  exact ⟨b, o, kind, a, m, v, bs, hq, h1, h2, h3, h4⟩
/-- Both disks, alike, in blocks that the law made. -/
structure Both (W w : World) (p r : Nat) (qv sv rq : Value) (d : DS) (j : Nat) : Prop where
  disk : DAt w p r qv d
  doc : RD w sv rq d
  ok : d.Ok
  que : d.queue.length ≤ j
  grown : Ext W w
  base : ∀ g, DB p r qv g → W.heap.size ≤ g
theorem Both.ext {W w w' : World} {p r j : Nat} {qv sv rq : Value} {d : DS} (h : Both W w p r qv sv rq d j) (k : Ext w w') : Both W w' p r qv sv rq d j := ⟨h.disk.ext k, h.doc.ext k, h.ok, h.que, h.grown.ext k, h.base⟩
theorem Both.box {W w w' : World} {p r j b : Nat} {qv sv rq : Value} {d : DS} (h : Both W w p r qv sv rq d j) {c : Array Value} (hb : w.heap[b]? = some (.cells c 30 (0, 0))) (hB : W.heap.size ≤ b) (k : Keep (fun k => k = b) w w') : Both W w' p r qv sv rq d j :=
  ⟨h.disk.keep k fun g hg e => (by
      subst e
      rcases h.disk.kind hg with ⟨es, c', e⟩ | ⟨c', t', e, ht'⟩
      · rw [hb] at e; cases e
      · rw [hb] at e
        rcases ht' with rfl | rfl <;> cases e), h.doc.box k hb, h.ok, h.que, h.grown.trans k fun i hi e => by omega, h.base⟩
theorem Both.act {W w w' : World} {p r j : Nat} {qv sv rq : Value} {d : DS} (h : Both W w p r qv sv rq d j) (hj : j < 1000000) {kind n m : Int} {bs : List Int} (hb : Go.Proofs.byt bs) (hn : -9223372036854775808 ≤ n ∧ n ≤ 9223372036854775807) {u : Value} (t : DoTo w w' p r qv (actD d kind n m bs) u) :
    ∃ qv' sv' rq', u = .tuple #[rv sv' rq' (actD d kind n m bs), .bool true] ∧ Both W w' p r qv' sv' rq' (actD d kind n m bs) (j + 1) ∧ Keep (DB p r qv) w w' ∧ ∀ g, DB p r qv' g → DB p r qv g ∨ w.heap.size ≤ g := by
  obtain ⟨sv', rq', rfl, hR, qv', hD, hK, hN⟩ := t
  have hq := h.que
  have hN' : ∀ g, DB p r qv' g → DB p r qv g ∨ w.heap.size ≤ g := fun g hg => by
    rcases hg with h | h | h
    · exact .inl (.inl h)
    · exact .inl (.inr (.inl h))
    · rcases hN g h with h | h
      · exact .inl (.inr (.inr h))
      · exact .inr h
  refine ⟨qv', sv', rq', rfl, ⟨hD, hR, actD_ok h.ok (by omega) hb hn, by have := actD_q d kind n m bs; omega, h.grown.trans hK fun i hi hs => by have := h.base i hs; omega, fun g hg => ?_⟩, hK, hN'⟩
  rcases hN' g hg with h1 | h1
  · exact h.base g h1
  · have := h.grown.size; omega
theorem Both.do {W w : World} {p r j : Nat} {qv sv rq : Value} {d : DS} (h : Both W w p r qv sv rq d j) (hj : j < 1000000) {kind n m : Int} {v : Value} {bs : List Int} (hx : Rd W v bs) (hb : Go.Proofs.byt bs) (hn : -9223372036854775808 ≤ n ∧ n ≤ 9223372036854775807) :
    Calls Try.prog 10 #[.pointer (some ⟨p, 0, none⟩), rv sv rq d, .agg #[.int .i64 kind, .int .i64 n, .int .i64 m, v]] w (Ret fun u w' => DoTo w w' p r qv (actD d kind n m bs) u) :=
  do_ok W w p r qv sv rq d kind n m v bs h.disk h.doc h.ok (by have := h.que; omega) hx hb h.grown h.base hn
set_option maxHeartbeats 3200000 in
theorem plays_ok (w : World) (n : Int) (q : Option Addr) (nn c : Nat) (xs : List (Array Value)) (hA : ActsAt w q nn c xs) :
    Calls Try.prog 3 #[.int .i64 n, .slice q nn c] w (Ret fun u w' => u = .bool true ∧ Ext w w') := by
  refine calls_of_cfg c3_ok (Nat.le_of_ble_eq_true rfl) ?_
  simp only [argE_nil, argE_cons, Nat.reduceAdd, Nat.zero_add]
  have hz4 : zc [(2, Value.slice none 0 0), (1, .int .i64 0), (1, .bool false)] = #[.slice none 0 0, .slice none 0 0, .int .i64 0, .bool false] := rfl
  have hof : okO (some (.cells #[.slice none 0 0, .slice none 0 0, .int .i64 0, .bool false] 30 (0, 0))) 0 4 = True := by simp [okO]
  (refine W_at c3_ok ?_; refine ⟨_, rfl, ?_⟩; simp (disch := first | omega | assumption | rfl | (simp only [vcS] <;> omega) | fail) only [↓ptV_l, ↓vcA, vcB, ↓vcD, vcE, ↓reduceIte, Nat.reduceEqDiff, Nat.reduceAdd, Nat.reduceMul, Nat.reduceLeDiff, Int.reduceLE, Int.reduceLT, Int.reduceEq, Int.reduceToNat, Int.reduceAdd, Int.reduceSub, Int.reduceMul, Int.reduceNeg, reduceCtorEq, Option.bind_some, Option.map_some, List.length_cons, List.length_nil, vcM, List.getElem?_toArray, List.getElem?_cons_zero, List.getElem?_cons_succ])
  (refine W_at c3_ok ?_; refine ⟨_, rfl, ?_⟩; simp (disch := first | omega | assumption | rfl | (simp only [vcS] <;> omega) | fail) only [↓ptV_l, ↓vcA, vcB, ↓vcD, vcE, ↓reduceIte, Nat.reduceEqDiff, Nat.reduceAdd, Nat.reduceMul, Nat.reduceLeDiff, Int.reduceLE, Int.reduceLT, Int.reduceEq, Int.reduceToNat, Int.reduceAdd, Int.reduceSub, Int.reduceMul, Int.reduceNeg, reduceCtorEq, Option.bind_some, Option.map_some, List.length_cons, List.length_nil, vcM, List.getElem?_toArray, List.getElem?_cons_zero, List.getElem?_cons_succ])
  refine callV_ret (awake_ok w) ?_
  rintro _ w1 ⟨rfl, hE1⟩
  first | (simp (disch := first | omega | assumption | rfl | (simp only [vcS] <;> omega) | fail) only [↓ptV_l, ↓vcA, vcB, ↓vcD, vcE, ↓reduceIte, Nat.reduceEqDiff, Nat.reduceAdd, Nat.reduceMul, Nat.reduceLeDiff, Int.reduceLE, Int.reduceLT, Int.reduceEq, Int.reduceToNat, Int.reduceAdd, Int.reduceSub, Int.reduceMul, Int.reduceNeg, reduceCtorEq, Option.bind_some, Option.map_some, List.length_cons, List.length_nil, vcM, List.getElem?_toArray, List.getElem?_cons_zero, List.getElem?_cons_succ]) | skip
  (refine W_at c3_ok ?_; refine ⟨_, rfl, ?_⟩; simp (disch := first | omega | assumption | rfl | (simp only [vcS] <;> omega) | fail) only [↓ptV_l, ↓vcA, vcB, ↓vcD, vcE, ↓reduceIte, Nat.reduceEqDiff, Nat.reduceAdd, Nat.reduceMul, Nat.reduceLeDiff, Int.reduceLE, Int.reduceLT, Int.reduceEq, Int.reduceToNat, Int.reduceAdd, Int.reduceSub, Int.reduceMul, Int.reduceNeg, reduceCtorEq, Option.bind_some, Option.map_some, List.length_cons, List.length_nil, vcM, List.getElem?_toArray, List.getElem?_cons_zero, List.getElem?_cons_succ])
  (refine W_at c3_ok ?_; refine ⟨_, rfl, ?_⟩; simp (disch := first | omega | assumption | rfl | (simp only [vcS] <;> omega) | fail) only [↓ptV_l, ↓vcA, vcB, ↓vcD, vcE, ↓reduceIte, Nat.reduceEqDiff, Nat.reduceAdd, Nat.reduceMul, Nat.reduceLeDiff, Int.reduceLE, Int.reduceLT, Int.reduceEq, Int.reduceToNat, Int.reduceAdd, Int.reduceSub, Int.reduceMul, Int.reduceNeg, reduceCtorEq, Option.bind_some, Option.map_some, List.length_cons, List.length_nil, vcM, List.getElem?_toArray, List.getElem?_cons_zero, List.getElem?_cons_succ])
  refine callV_ret (size_ok' w1 n) ?_
  rintro _ wq ⟨rfl, hw⟩
  obtain rfl : w1 = wq := hw.symm
  first | (simp (disch := first | omega | assumption | rfl | (simp only [vcS] <;> omega) | fail) only [↓ptV_l, ↓vcA, vcB, ↓vcD, vcE, ↓reduceIte, Nat.reduceEqDiff, Nat.reduceAdd, Nat.reduceMul, Nat.reduceLeDiff, Int.reduceLE, Int.reduceLT, Int.reduceEq, Int.reduceToNat, Int.reduceAdd, Int.reduceSub, Int.reduceMul, Int.reduceNeg, reduceCtorEq, Option.bind_some, Option.map_some, List.length_cons, List.length_nil, vcM, List.getElem?_toArray, List.getElem?_cons_zero, List.getElem?_cons_succ]) | skip
  generalize hN : max (-1) (min n 20) = N
  refine callV_ret (new_ok w1 N) ?_
  rintro _ w2 ⟨p, r, rfl, hD2, hE2, hp2, hr2⟩
  first | (simp (disch := first | omega | assumption | rfl | (simp only [vcS] <;> omega) | fail) only [↓ptV_l, ↓vcA, vcB, ↓vcD, vcE, ↓reduceIte, Nat.reduceEqDiff, Nat.reduceAdd, Nat.reduceMul, Nat.reduceLeDiff, Int.reduceLE, Int.reduceLT, Int.reduceEq, Int.reduceToNat, Int.reduceAdd, Int.reduceSub, Int.reduceMul, Int.reduceNeg, reduceCtorEq, Option.bind_some, Option.map_some, List.length_cons, List.length_nil, vcM, List.getElem?_toArray, List.getElem?_cons_zero, List.getElem?_cons_succ]) | skip
  refine callV_ret (size_ok' w2 n) ?_
  rintro _ wq ⟨rfl, hw⟩
  obtain rfl : w2 = wq := hw.symm
  rw [hN]
  first | (simp (disch := first | omega | assumption | rfl | (simp only [vcS] <;> omega) | fail) only [↓ptV_l, ↓vcA, vcB, ↓vcD, vcE, ↓reduceIte, Nat.reduceEqDiff, Nat.reduceAdd, Nat.reduceMul, Nat.reduceLeDiff, Int.reduceLE, Int.reduceLT, Int.reduceEq, Int.reduceToNat, Int.reduceAdd, Int.reduceSub, Int.reduceMul, Int.reduceNeg, reduceCtorEq, Option.bind_some, Option.map_some, List.length_cons, List.length_nil, vcM, List.getElem?_toArray, List.getElem?_cons_zero, List.getElem?_cons_succ]) | skip
  refine callV_ret (rnew_ok w2 N) ?_
  rintro _ w3 ⟨sv, rfl, hR3, hE3⟩
  have hrv0 : rv sv (.slice none 0 0) (newD N) = Value.agg (rcell sv (.slice none 0 0) (newD N)) := rfl
  have s0 : (rcell sv (.slice none 0 0) (newD N)).size = 4 := rfl
  rw [hrv0]
  simp (disch := first | omega | assumption | rfl | (simp only [vcS] <;> omega) | fail) only [↓ptV_l, ↓vcA, vcB, ↓vcD, vcE, ↓reduceIte, Nat.reduceEqDiff, Nat.reduceAdd, Nat.reduceMul, Nat.reduceLeDiff, Int.reduceLE, Int.reduceLT, Int.reduceEq, Int.reduceToNat, Int.reduceAdd, Int.reduceSub, Int.reduceMul, Int.reduceNeg, reduceCtorEq, Option.bind_some, Option.map_some, List.length_cons, List.length_nil, vcM, List.getElem?_toArray, List.getElem?_cons_zero, List.getElem?_cons_succ, hz4, s0]
  refine ⟨rc_flat (w := w) hR3.safe.one rfl, by simp, ?_⟩
  have hb6 : ((w3.alloc (.cells #[.slice none 0 0, .slice none 0 0, .int .i64 0, .bool false] 30)).putN w3.heap.size 0 (rcell sv (.slice none 0 0) (newD N))).heap[w3.heap.size]? = some (.cells (rcell sv (.slice none 0 0) (newD N)) 30 (0, 0)) := by
    rw [heap_putN_eq (heap_new _ _ _ rfl), splice_all (by simp [rcell])]
  have hE4 : Ext w3 ((w3.alloc (.cells #[.slice none 0 0, .slice none 0 0, .int .i64 0, .bool false] 30)).putN w3.heap.size 0 (rcell sv (.slice none 0 0) (newD N))) := ((Keep.refl _ w3).alloc _).putN _ (by intro hh; exfalso; omega)
  generalize World.putN _ _ _ _ = w4 at hb6 hE4 ⊢
  have hp6 : w.heap.size ≤ w3.heap.size := ((hE1.ext hE2).ext hE3).size
  generalize w3.heap.size = p6 at hb6 hp6 ⊢
  have z1 := hE1.size
  have B4 : Both w w4 p r (.slice none 0 0) sv (.slice none 0 0) (newD N) 0 := ⟨(hD2.ext hE3).ext hE4, hR3.ext hE4, newD_ok N, by simp [newD], ((hE1.ext hE2).ext hE3).ext hE4, fun g hg => by
    rcases hg with h | h | h
    · omega
    · omega
    · cases h⟩
  clear hD2 hR3
  have L : ∀ (k j : Nat) (wj : World) (qv sv rq : Value) (d : DS), k + j = 40 → Both w wj p r qv sv rq d j → wj.heap[p6]? = some (.cells (rcell sv rq d) 30 (0, 0)) →
      W Try.prog (Ret fun u w' => u = .bool true ∧ Ext w w') 3 12 [(1, .slice q nn c), (5, .pointer (some ⟨p, 0, none⟩)), (6, .pointer (some ⟨p6, 0, none⟩)), (7, .int .i64 (j : Nat))] wj := by
    intro k
    induction k with
    | zero =>
      intro j wj qv sv rq d hj B h6
      have c2 : ¬ ((j : Nat) : Int) < 40 := by omega
      by_cases c1 : ((j : Nat) : Int) < (nn : Nat)
      · (refine W_at c3_ok ?_; refine ⟨_, rfl, ?_⟩; simp (disch := first | omega | assumption | rfl | (simp only [vcS] <;> omega) | fail) only [↓ptV_l, ↓vcA, vcB, ↓vcD, vcE, ↓reduceIte, Nat.reduceEqDiff, Nat.reduceAdd, Nat.reduceMul, Nat.reduceLeDiff, Int.reduceLE, Int.reduceLT, Int.reduceEq, Int.reduceToNat, Int.reduceAdd, Int.reduceSub, Int.reduceMul, Int.reduceNeg, reduceCtorEq, Option.bind_some, Option.map_some, List.length_cons, List.length_nil, vcM, List.getElem?_toArray, List.getElem?_cons_zero, List.getElem?_cons_succ, c1, c2])
        (refine W_at c3_ok ?_; refine ⟨_, rfl, ?_⟩; simp (disch := first | omega | assumption | rfl | (simp only [vcS] <;> omega) | fail) only [↓ptV_l, ↓vcA, vcB, ↓vcD, vcE, ↓reduceIte, Nat.reduceEqDiff, Nat.reduceAdd, Nat.reduceMul, Nat.reduceLeDiff, Int.reduceLE, Int.reduceLT, Int.reduceEq, Int.reduceToNat, Int.reduceAdd, Int.reduceSub, Int.reduceMul, Int.reduceNeg, reduceCtorEq, Option.bind_some, Option.map_some, List.length_cons, List.length_nil, vcM, List.getElem?_toArray, List.getElem?_cons_zero, List.getElem?_cons_succ])
        (refine W_at c3_ok ?_; refine ⟨_, rfl, ?_⟩; simp (disch := first | omega | assumption | rfl | (simp only [vcS] <;> omega) | fail) only [↓ptV_l, ↓vcA, vcB, ↓vcD, vcE, ↓reduceIte, Nat.reduceEqDiff, Nat.reduceAdd, Nat.reduceMul, Nat.reduceLeDiff, Int.reduceLE, Int.reduceLT, Int.reduceEq, Int.reduceToNat, Int.reduceAdd, Int.reduceSub, Int.reduceMul, Int.reduceNeg, reduceCtorEq, Option.bind_some, Option.map_some, List.length_cons, List.length_nil, vcM, List.getElem?_toArray, List.getElem?_cons_zero, List.getElem?_cons_succ])
        (refine W_at c3_ok ?_; refine ⟨_, rfl, ?_⟩; simp (disch := first | omega | assumption | rfl | (simp only [vcS] <;> omega) | fail) only [↓ptV_l, ↓vcA, vcB, ↓vcD, vcE, ↓reduceIte, Nat.reduceEqDiff, Nat.reduceAdd, Nat.reduceMul, Nat.reduceLeDiff, Int.reduceLE, Int.reduceLT, Int.reduceEq, Int.reduceToNat, Int.reduceAdd, Int.reduceSub, Int.reduceMul, Int.reduceNeg, reduceCtorEq, Option.bind_some, Option.map_some, List.length_cons, List.length_nil, vcM, List.getElem?_toArray, List.getElem?_cons_zero, List.getElem?_cons_succ, Ret_returned])
        exact B.grown
      · (refine W_at c3_ok ?_; refine ⟨_, rfl, ?_⟩; simp (disch := first | omega | assumption | rfl | (simp only [vcS] <;> omega) | fail) only [↓ptV_l, ↓vcA, vcB, ↓vcD, vcE, ↓reduceIte, Nat.reduceEqDiff, Nat.reduceAdd, Nat.reduceMul, Nat.reduceLeDiff, Int.reduceLE, Int.reduceLT, Int.reduceEq, Int.reduceToNat, Int.reduceAdd, Int.reduceSub, Int.reduceMul, Int.reduceNeg, reduceCtorEq, Option.bind_some, Option.map_some, List.length_cons, List.length_nil, vcM, List.getElem?_toArray, List.getElem?_cons_zero, List.getElem?_cons_succ, c1])
        (refine W_at c3_ok ?_; refine ⟨_, rfl, ?_⟩; simp (disch := first | omega | assumption | rfl | (simp only [vcS] <;> omega) | fail) only [↓ptV_l, ↓vcA, vcB, ↓vcD, vcE, ↓reduceIte, Nat.reduceEqDiff, Nat.reduceAdd, Nat.reduceMul, Nat.reduceLeDiff, Int.reduceLE, Int.reduceLT, Int.reduceEq, Int.reduceToNat, Int.reduceAdd, Int.reduceSub, Int.reduceMul, Int.reduceNeg, reduceCtorEq, Option.bind_some, Option.map_some, List.length_cons, List.length_nil, vcM, List.getElem?_toArray, List.getElem?_cons_zero, List.getElem?_cons_succ])
        (refine W_at c3_ok ?_; refine ⟨_, rfl, ?_⟩; simp (disch := first | omega | assumption | rfl | (simp only [vcS] <;> omega) | fail) only [↓ptV_l, ↓vcA, vcB, ↓vcD, vcE, ↓reduceIte, Nat.reduceEqDiff, Nat.reduceAdd, Nat.reduceMul, Nat.reduceLeDiff, Int.reduceLE, Int.reduceLT, Int.reduceEq, Int.reduceToNat, Int.reduceAdd, Int.reduceSub, Int.reduceMul, Int.reduceNeg, reduceCtorEq, Option.bind_some, Option.map_some, List.length_cons, List.length_nil, vcM, List.getElem?_toArray, List.getElem?_cons_zero, List.getElem?_cons_succ])
        (refine W_at c3_ok ?_; refine ⟨_, rfl, ?_⟩; simp (disch := first | omega | assumption | rfl | (simp only [vcS] <;> omega) | fail) only [↓ptV_l, ↓vcA, vcB, ↓vcD, vcE, ↓reduceIte, Nat.reduceEqDiff, Nat.reduceAdd, Nat.reduceMul, Nat.reduceLeDiff, Int.reduceLE, Int.reduceLT, Int.reduceEq, Int.reduceToNat, Int.reduceAdd, Int.reduceSub, Int.reduceMul, Int.reduceNeg, reduceCtorEq, Option.bind_some, Option.map_some, List.length_cons, List.length_nil, vcM, List.getElem?_toArray, List.getElem?_cons_zero, List.getElem?_cons_succ, Ret_returned])
        exact B.grown
    | succ k ih =>
      intro j wj qv sv rq d hj B h6
      have c2 : ((j : Nat) : Int) < 40 := by omega
      by_cases c1 : ((j : Nat) : Int) < (nn : Nat)
      · obtain ⟨b, o, kind, a, m, v, bs, hq, hr, hv, hbb, hn⟩ := hA.act B.grown (i := j) (by omega)
        have cw : 0 ≤ ((j : Nat) : Int) ∧ ((j : Nat) : Int) < (nn : Nat) := by omega
        have hwj : IntKind.i64.wrap (((j : Nat) : Int) + 1) = ((j + 1 : Nat) : Int) := wrap_i64 (by omega) (by omega)
        have x4 : (rcell sv rq d).extract 0 (0 + 4) = rcell sv rq d := rfl
        have s4 : (rcell sv rq d).size = 4 := rfl
        have hrv : Value.agg (rcell sv rq d) = rv sv rq d := rfl
        have hEd : Ext wj wj.drew := (Keep.refl _ wj).drew
        have ab : ∀ o', rdO (wj.drew.alloc o').heap[b]? (o + j * 4) 4 = some #[.int .i64 kind, .int .i64 a, .int .i64 m, v] := fun o' => rdO_ext (hEd.alloc o') hr
        have a6 : ∀ o', (wj.drew.alloc o').heap[p6]? = some (.cells (rcell sv rq d) 30 (0, 0)) := fun o' => (hEd.alloc o').at h6 (fun h => h)
        subst hq
        -- behind the act
        have cont : ∀ (p8 : Nat) (wk : World) (qv' sv' rq' : Value) (d' : DS), wk.heap[p8]? = some (.cells (rcell sv' rq' d') 30 (0, 0)) → p8 ≠ p6 → Both w wk p r qv' sv' rq' d' (j + 1) → wk.heap[p6]? = some (.cells (rcell sv rq d) 30 (0, 0)) →
            W Try.prog (Ret fun u w' => u = .bool true ∧ Ext w w') 3 9 [(1, .slice (some ⟨b, o, none⟩) nn c), (5, .pointer (some ⟨p, 0, none⟩)), (6, .pointer (some ⟨p6, 0, none⟩)), (7, .int .i64 (j : Nat)), (8, .pointer (some ⟨p8, 0, none⟩)), (9, .bool true)] wk := by
          intro p8 wk qv' sv' rq' d' h8 hne Bk h6k
          have x4' : (rcell sv' rq' d').extract 0 (0 + 4) = rcell sv' rq' d' := rfl
          have s4' : (rcell sv' rq' d').size = 4 := rfl
          have hrv' : Value.agg (rcell sv' rq' d') = rv sv' rq' d' := rfl
          have hok6 : okO (some (.cells (rcell sv rq d) 30 (0, 0))) 0 4 = True := by simp [okO, rcell]
          (refine W_at c3_ok ?_; refine ⟨_, rfl, ?_⟩; simp (disch := first | omega | assumption | rfl | (simp only [vcS] <;> omega) | fail) only [↓ptV_l, ↓vcA, vcB, ↓vcD, vcE, ↓reduceIte, Nat.reduceEqDiff, Nat.reduceAdd, Nat.reduceMul, Nat.reduceLeDiff, Int.reduceLE, Int.reduceLT, Int.reduceEq, Int.reduceToNat, Int.reduceAdd, Int.reduceSub, Int.reduceMul, Int.reduceNeg, reduceCtorEq, Option.bind_some, Option.map_some, List.length_cons, List.length_nil, vcM, List.getElem?_toArray, List.getElem?_cons_zero, List.getElem?_cons_succ, h8, h6k, x4', s4', hok6])
          refine ⟨rc_flat (w := w) Bk.doc.safe.one Bk.doc.queue.one, ?_⟩
          have k7 : Keep (fun k => k = p6) wk (wk.putN p6 0 (rcell sv' rq' d')) := (Keep.refl _ wk).putN _ fun _ => rfl
          have h67 : (wk.putN p6 0 (rcell sv' rq' d')).heap[p6]? = some (.cells (rcell sv' rq' d') 30 (0, 0)) := by rw [heap_putN_eq h6k, splice_all (by simp [rcell])]
          have B7 := Bk.box h6k hp6 k7
          generalize World.putN _ _ _ _ = w7 at h67 B7 ⊢
          (refine W_at c3_ok ?_; refine ⟨_, rfl, ?_⟩; simp (disch := first | omega | assumption | rfl | (simp only [vcS] <;> omega) | fail) only [↓ptV_l, ↓vcA, vcB, ↓vcD, vcE, ↓reduceIte, Nat.reduceEqDiff, Nat.reduceAdd, Nat.reduceMul, Nat.reduceLeDiff, Int.reduceLE, Int.reduceLT, Int.reduceEq, Int.reduceToNat, Int.reduceAdd, Int.reduceSub, Int.reduceMul, Int.reduceNeg, reduceCtorEq, Option.bind_some, Option.map_some, List.length_cons, List.length_nil, vcM, List.getElem?_toArray, List.getElem?_cons_zero, List.getElem?_cons_succ, h67, x4', s4', hrv'])
          refine callV_ret (is_ok w7 p r qv' sv' rq' d' B7.disk B7.doc B7.ok) ?_
          rintro _ w8 ⟨rfl, hE8⟩
          simp (disch := first | omega | assumption | rfl | (simp only [vcS] <;> omega) | fail) only [↓ptV_l, ↓vcA, vcB, ↓vcD, vcE, ↓reduceIte, Nat.reduceEqDiff, Nat.reduceAdd, Nat.reduceMul, Nat.reduceLeDiff, Int.reduceLE, Int.reduceLT, Int.reduceEq, Int.reduceToNat, Int.reduceAdd, Int.reduceSub, Int.reduceMul, Int.reduceNeg, reduceCtorEq, Option.bind_some, Option.map_some, List.length_cons, List.length_nil, vcM, List.getElem?_toArray, List.getElem?_cons_zero, List.getElem?_cons_succ]
          (refine W_at c3_ok ?_; refine ⟨_, rfl, ?_⟩; simp (disch := first | omega | assumption | rfl | (simp only [vcS] <;> omega) | fail) only [↓ptV_l, ↓vcA, vcB, ↓vcD, vcE, ↓reduceIte, Nat.reduceEqDiff, Nat.reduceAdd, Nat.reduceMul, Nat.reduceLeDiff, Int.reduceLE, Int.reduceLT, Int.reduceEq, Int.reduceToNat, Int.reduceAdd, Int.reduceSub, Int.reduceMul, Int.reduceNeg, reduceCtorEq, Option.bind_some, Option.map_some, List.length_cons, List.length_nil, vcM, List.getElem?_toArray, List.getElem?_cons_zero, List.getElem?_cons_succ])
          (refine W_at c3_ok ?_; refine ⟨_, rfl, ?_⟩; simp (disch := first | omega | assumption | rfl | (simp only [vcS] <;> omega) | fail) only [↓ptV_l, ↓vcA, vcB, ↓vcD, vcE, ↓reduceIte, Nat.reduceEqDiff, Nat.reduceAdd, Nat.reduceMul, Nat.reduceLeDiff, Int.reduceLE, Int.reduceLT, Int.reduceEq, Int.reduceToNat, Int.reduceAdd, Int.reduceSub, Int.reduceMul, Int.reduceNeg, reduceCtorEq, Option.bind_some, Option.map_some, List.length_cons, List.length_nil, vcM, List.getElem?_toArray, List.getElem?_cons_zero, List.getElem?_cons_succ, hwj])
          (refine W_at c3_ok ?_; refine ⟨_, rfl, ?_⟩; simp (disch := first | omega | assumption | rfl | (simp only [vcS] <;> omega) | fail) only [↓ptV_l, ↓vcA, vcB, ↓vcD, vcE, ↓reduceIte, Nat.reduceEqDiff, Nat.reduceAdd, Nat.reduceMul, Nat.reduceLeDiff, Int.reduceLE, Int.reduceLT, Int.reduceEq, Int.reduceToNat, Int.reduceAdd, Int.reduceSub, Int.reduceMul, Int.reduceNeg, reduceCtorEq, Option.bind_some, Option.map_some, List.length_cons, List.length_nil, vcM, List.getElem?_toArray, List.getElem?_cons_zero, List.getElem?_cons_succ])
          exact ih (j + 1) w8 qv' sv' rq' d' (by omega) (B7.ext hE8) (hE8.at h67 (fun h => h))
        (refine W_at c3_ok ?_; refine ⟨_, rfl, ?_⟩; simp (disch := first | omega | assumption | rfl | (simp only [vcS] <;> omega) | fail) only [↓ptV_l, ↓vcA, vcB, ↓vcD, vcE, ↓reduceIte, Nat.reduceEqDiff, Nat.reduceAdd, Nat.reduceMul, Nat.reduceLeDiff, Int.reduceLE, Int.reduceLT, Int.reduceEq, Int.reduceToNat, Int.reduceAdd, Int.reduceSub, Int.reduceMul, Int.reduceNeg, reduceCtorEq, Option.bind_some, Option.map_some, List.length_cons, List.length_nil, vcM, List.getElem?_toArray, List.getElem?_cons_zero, List.getElem?_cons_succ, c1, c2])
        (refine W_at c3_ok ?_; refine ⟨_, rfl, ?_⟩; simp (disch := first | omega | assumption | rfl | (simp only [vcS] <;> omega) | fail) only [↓ptV_l, ↓vcA, vcB, ↓vcD, vcE, ↓reduceIte, Nat.reduceEqDiff, Nat.reduceAdd, Nat.reduceMul, Nat.reduceLeDiff, Int.reduceLE, Int.reduceLT, Int.reduceEq, Int.reduceToNat, Int.reduceAdd, Int.reduceSub, Int.reduceMul, Int.reduceNeg, reduceCtorEq, Option.bind_some, Option.map_some, List.length_cons, List.length_nil, vcM, List.getElem?_toArray, List.getElem?_cons_zero, List.getElem?_cons_succ])
        (refine W_at c3_ok ?_; refine ⟨_, rfl, ?_⟩; simp (disch := first | omega | assumption | rfl | (simp only [vcS] <;> omega) | fail) only [↓ptV_l, ↓vcA, vcB, ↓vcD, vcE, ↓reduceIte, Nat.reduceEqDiff, Nat.reduceAdd, Nat.reduceMul, Nat.reduceLeDiff, Int.reduceLE, Int.reduceLT, Int.reduceEq, Int.reduceToNat, Int.reduceAdd, Int.reduceSub, Int.reduceMul, Int.reduceNeg, reduceCtorEq, Option.bind_some, Option.map_some, List.length_cons, List.length_nil, vcM, List.getElem?_toArray, List.getElem?_cons_zero, List.getElem?_cons_succ, cw, hr, Int.toNat_natCast, h6, x4, s4, hrv, hz4, ab, a6])
        have Bd := B.ext hEd
        refine ⟨?_, ?_⟩
        · refine callV_ret (Bd.do (by omega) hv hbb hn) ?_
          intro u wk hk
          obtain ⟨qv', sv', rq', rfl, Bk, hKk, hNk⟩ := Bd.act (by omega) hbb hn hk
          have s4' : (rcell sv' rq' (actD d kind a m bs)).size = 4 := rfl
          have hrv' : rv sv' rq' (actD d kind a m bs) = Value.agg (rcell sv' rq' (actD d kind a m bs)) := rfl
          have h6k := hKk.at (show wj.drew.heap[p6]? = _ from h6) (Both_box_ne Bd.disk h6)
          have hl6 := (Array.getElem?_eq_some_iff.1 h6k).1
          rw [hrv']
          simp (disch := first | omega | assumption | rfl | (simp only [vcS] <;> omega) | fail) only [↓ptV_l, ↓vcA, vcB, ↓vcD, vcE, ↓reduceIte, Nat.reduceEqDiff, Nat.reduceAdd, Nat.reduceMul, Nat.reduceLeDiff, Int.reduceLE, Int.reduceLT, Int.reduceEq, Int.reduceToNat, Int.reduceAdd, Int.reduceSub, Int.reduceMul, Int.reduceNeg, reduceCtorEq, Option.bind_some, Option.map_some, List.length_cons, List.length_nil, vcM, List.getElem?_toArray, List.getElem?_cons_zero, List.getElem?_cons_succ, s4']
          refine ⟨rc_flat (w := w) Bk.doc.safe.one Bk.doc.queue.one, by simp, ?_⟩
          have h8 : ((wk.alloc (.cells #[.slice none 0 0, .slice none 0 0, .int .i64 0, .bool false] 30)).putN wk.heap.size 0 (rcell sv' rq' (actD d kind a m bs))).heap[wk.heap.size]? = some (.cells (rcell sv' rq' (actD d kind a m bs)) 30 (0, 0)) := by
            rw [heap_putN_eq (heap_new _ _ _ rfl), splice_all (by simp [rcell])]
          have hEk : Ext wk ((wk.alloc (.cells #[.slice none 0 0, .slice none 0 0, .int .i64 0, .bool false] 30)).putN wk.heap.size 0 (rcell sv' rq' (actD d kind a m bs))) := ((Keep.refl _ wk).alloc _).putN _ (by intro hh; exfalso; omega)
          exact cont _ _ qv' sv' rq' _ h8 (by omega) (Bk.ext hEk) (hEk.at h6k (fun h => h))
        · have Ba := B.ext (hEd.alloc (.cells #[.slice none 0 0, .slice none 0 0, .int .i64 0, .bool false] 30))
          have h8 : (wj.drew.alloc (.cells #[.slice none 0 0, .slice none 0 0, .int .i64 0, .bool false] 30)).heap[wj.heap.size]? = some (.cells #[.slice none 0 0, .slice none 0 0, .int .i64 0, .bool false] 30 (0, 0)) := heap_new _ _ _ rfl
          refine callV_ret (Ba.do (by omega) hv hbb hn) ?_
          intro u wk hk
          obtain ⟨qv', sv', rq', rfl, Bk, hKk, hNk⟩ := Ba.act (by omega) hbb hn hk
          have s4' : (rcell sv' rq' (actD d kind a m bs)).size = 4 := rfl
          have hrv' : rv sv' rq' (actD d kind a m bs) = Value.agg (rcell sv' rq' (actD d kind a m bs)) := rfl
          have h6k := hKk.at (a6 _) (Both_box_ne Ba.disk (a6 _))
          have h8k := hKk.at h8 (Both_box_ne Ba.disk h8)
          have hl6 := (Array.getElem?_eq_some_iff.1 h6).1
          rw [hrv']
          simp (disch := first | omega | assumption | rfl | (simp only [vcS] <;> omega) | fail) only [↓ptV_l, ↓vcA, vcB, ↓vcD, vcE, ↓reduceIte, Nat.reduceEqDiff, Nat.reduceAdd, Nat.reduceMul, Nat.reduceLeDiff, Int.reduceLE, Int.reduceLT, Int.reduceEq, Int.reduceToNat, Int.reduceAdd, Int.reduceSub, Int.reduceMul, Int.reduceNeg, reduceCtorEq, Option.bind_some, Option.map_some, List.length_cons, List.length_nil, vcM, List.getElem?_toArray, List.getElem?_cons_zero, List.getElem?_cons_succ, s4', h8k, hof]
          refine ⟨rc_flat (w := w) Bk.doc.safe.one Bk.doc.queue.one, ?_⟩
          have h88 : (wk.putN wj.heap.size 0 (rcell sv' rq' (actD d kind a m bs))).heap[wj.heap.size]? = some (.cells (rcell sv' rq' (actD d kind a m bs)) 30 (0, 0)) := by
            rw [heap_putN_eq h8k, splice_all (by simp [rcell])]
          have k8 : Keep (fun k => k = wj.heap.size) wk (wk.putN wj.heap.size 0 (rcell sv' rq' (actD d kind a m bs))) := (Keep.refl _ wk).putN _ fun _ => rfl
          exact cont _ _ qv' sv' rq' _ h88 (by omega) (Bk.box h8k (by have := B.grown.size; omega) k8) (k8.at h6k (by omega))
      · (refine W_at c3_ok ?_; refine ⟨_, rfl, ?_⟩; simp (disch := first | omega | assumption | rfl | (simp only [vcS] <;> omega) | fail) only [↓ptV_l, ↓vcA, vcB, ↓vcD, vcE, ↓reduceIte, Nat.reduceEqDiff, Nat.reduceAdd, Nat.reduceMul, Nat.reduceLeDiff, Int.reduceLE, Int.reduceLT, Int.reduceEq, Int.reduceToNat, Int.reduceAdd, Int.reduceSub, Int.reduceMul, Int.reduceNeg, reduceCtorEq, Option.bind_some, Option.map_some, List.length_cons, List.length_nil, vcM, List.getElem?_toArray, List.getElem?_cons_zero, List.getElem?_cons_succ, c1])
        (refine W_at c3_ok ?_; refine ⟨_, rfl, ?_⟩; simp (disch := first | omega | assumption | rfl | (simp only [vcS] <;> omega) | fail) only [↓ptV_l, ↓vcA, vcB, ↓vcD, vcE, ↓reduceIte, Nat.reduceEqDiff, Nat.reduceAdd, Nat.reduceMul, Nat.reduceLeDiff, Int.reduceLE, Int.reduceLT, Int.reduceEq, Int.reduceToNat, Int.reduceAdd, Int.reduceSub, Int.reduceMul, Int.reduceNeg, reduceCtorEq, Option.bind_some, Option.map_some, List.length_cons, List.length_nil, vcM, List.getElem?_toArray, List.getElem?_cons_zero, List.getElem?_cons_succ])
        (refine W_at c3_ok ?_; refine ⟨_, rfl, ?_⟩; simp (disch := first | omega | assumption | rfl | (simp only [vcS] <;> omega) | fail) only [↓ptV_l, ↓vcA, vcB, ↓vcD, vcE, ↓reduceIte, Nat.reduceEqDiff, Nat.reduceAdd, Nat.reduceMul, Nat.reduceLeDiff, Int.reduceLE, Int.reduceLT, Int.reduceEq, Int.reduceToNat, Int.reduceAdd, Int.reduceSub, Int.reduceMul, Int.reduceNeg, reduceCtorEq, Option.bind_some, Option.map_some, List.length_cons, List.length_nil, vcM, List.getElem?_toArray, List.getElem?_cons_zero, List.getElem?_cons_succ])
        (refine W_at c3_ok ?_; refine ⟨_, rfl, ?_⟩; simp (disch := first | omega | assumption | rfl | (simp only [vcS] <;> omega) | fail) only [↓ptV_l, ↓vcA, vcB, ↓vcD, vcE, ↓reduceIte, Nat.reduceEqDiff, Nat.reduceAdd, Nat.reduceMul, Nat.reduceLeDiff, Int.reduceLE, Int.reduceLT, Int.reduceEq, Int.reduceToNat, Int.reduceAdd, Int.reduceSub, Int.reduceMul, Int.reduceNeg, reduceCtorEq, Option.bind_some, Option.map_some, List.length_cons, List.length_nil, vcM, List.getElem?_toArray, List.getElem?_cons_zero, List.getElem?_cons_succ, Ret_returned])
        exact B.grown
  (refine W_at c3_ok ?_; refine ⟨_, rfl, ?_⟩; simp (disch := first | omega | assumption | rfl | (simp only [vcS] <;> omega) | fail) only [↓ptV_l, ↓vcA, vcB, ↓vcD, vcE, ↓reduceIte, Nat.reduceEqDiff, Nat.reduceAdd, Nat.reduceMul, Nat.reduceLeDiff, Int.reduceLE, Int.reduceLT, Int.reduceEq, Int.reduceToNat, Int.reduceAdd, Int.reduceSub, Int.reduceMul, Int.reduceNeg, reduceCtorEq, Option.bind_some, Option.map_some, List.length_cons, List.length_nil, vcM, List.getElem?_toArray, List.getElem?_cons_zero, List.getElem?_cons_succ])
  exact L 40 0 w4 _ _ _ _ (by omega) B4 hb6
end Go.Proofs
