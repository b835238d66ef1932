/- The law DiskTwins: its walk. -/
import Derived.Test.YtehloghkgdilkaaDE
set_option linter.unusedSimpArgs false
set_option linter.unusedVariables false
set_option linter.constructorNameAsVariable false
namespace Go.Proofs
open Go.Vc
set_option maxRecDepth 10000

theorem Both.mono {W w : World} {p r j j' : Nat} {qv sv rq : Value} {d : DS} (h : Both W w p r qv sv rq d j) (hj : j ≤ j') : Both W w p r qv sv rq d j' := ⟨h.disk, h.doc, h.ok, Nat.le_trans h.que hj, h.grown, h.base⟩
theorem Both.other {W w w' : World} {p r pt rt j : Nat} {qa qt st rr : Value} {da dt : DS} (h : Both W w pt rt qt st rr dt j) (hD : DAt w p r qa da) (k : Keep (DB p r qa) w w') (hdis : ∀ g, DB p r qa g → ¬ DB pt rt qt g) (hb : ∀ g, DB p r qa g → W.heap.size ≤ g) :
    Both W w' pt rt qt st rr dt j :=
  ⟨h.disk.keep k fun g hg hs => hdis g hs hg, h.doc.dk (w0 := w) hD k, h.ok, h.que, h.grown.trans k fun i hi hs => by have := hb i hs; omega, h.base⟩
/-- Two disks, each with the document's beside it, that share no block. -/
structure Duo (W w : World) (p r pt rt p8 p11 : Nat) (qa sa ra qt st rr : Value) (da dt : DS) (j : Nat) : Prop where
  a : Both W w p r qa sa ra da j
  t : Both W w pt rt qt st rr dt j
  dis : ∀ g, DB p r qa g → ¬ DB pt rt qt g
  b8 : w.heap[p8]? = some (.cells (rcell sa ra da) 30 (0, 0))
  b11 : w.heap[p11]? = some (.cells (rcell st rr dt) 30 (0, 0))
  ne : p8 ≠ p11
  l8 : W.heap.size ≤ p8
  l11 : W.heap.size ≤ p11
theorem Duo.ext {W w w' : World} {p r pt rt p8 p11 j : Nat} {qa sa ra qt st rr : Value} {da dt : DS} (h : Duo W w p r pt rt p8 p11 qa sa ra qt st rr da dt j) (k : Ext w w') : Duo W w' p r pt rt p8 p11 qa sa ra qt st rr da dt j :=
  ⟨h.a.ext k, h.t.ext k, h.dis, k.at h.b8 (fun h => h), k.at h.b11 (fun h => h), h.ne, h.l8, h.l11⟩
theorem Duo.mono {W w : World} {p r pt rt p8 p11 j j' : Nat} {qa sa ra qt st rr : Value} {da dt : DS} (h : Duo W w p r pt rt p8 p11 qa sa ra qt st rr da dt j) (hj : j ≤ j') : Duo W w p r pt rt p8 p11 qa sa ra qt st rr da dt j' :=
  ⟨h.a.mono hj, h.t.mono hj, h.dis, h.b8, h.b11, h.ne, h.l8, h.l11⟩
/-- The two change places. -/
theorem Duo.swap {W w : World} {p r pt rt p8 p11 j : Nat} {qa sa ra qt st rr : Value} {da dt : DS} (h : Duo W w p r pt rt p8 p11 qa sa ra qt st rr da dt j) : Duo W w pt rt p r p11 p8 qt st rr qa sa ra dt da j :=
  ⟨h.t, h.a, fun g h1 h2 => h.dis g h2 h1, h.b11, h.b8, Ne.symm h.ne, h.l11, h.l8⟩
/-- An act on the first one, and its box written. -/
theorem Duo.act {W w w' : World} {p r pt rt p8 p11 j : Nat} {qa sa ra qt st rr : Value} {da dt : DS} (h : Duo W w p r pt rt p8 p11 qa sa ra qt st rr da dt j) (hj : j < 1000000) {kind n m : Int} {bs : List Int} (hb : Go.Proofs.byt bs) (hn : -9223372036854775808 ≤ n ∧ n ≤ 9223372036854775807) {u : Value} (t : DoTo w w' p r qa (actD da kind n m bs) u) :
    ∃ qv' sv' rq', u = .tuple #[rv sv' rq' (actD da kind n m bs), .bool true] ∧ w'.heap[p8]? = some (.cells (rcell sa ra da) 30 (0, 0)) ∧ flat (rcell sv' rq' (actD da kind n m bs)) ∧
      Duo W (w'.putN p8 0 (rcell sv' rq' (actD da kind n m bs))) p r pt rt p8 p11 qv' sv' rq' qt st rr (actD da kind n m bs) dt (j + 1) := by
  obtain ⟨qv', sv', rq', e, B', K, N⟩ := h.a.act hj hb hn t
  have h8 := K.at h.b8 (Both_box_ne h.a.disk h.b8)
  have h11 := K.at h.b11 (Both_box_ne h.a.disk h.b11)
  have T' := (h.t.other h.a.disk K h.dis h.a.base).mono (Nat.le_succ j)
  have k8 : Keep (fun k => k = p8) w' (w'.putN p8 0 (rcell sv' rq' (actD da kind n m bs))) := (Keep.refl _ w').putN _ fun _ => rfl
  refine ⟨qv', sv', rq', e, h8, rc_flat (w := w) B'.doc.safe.one B'.doc.queue.one, B'.box h8 h.l8 k8, T'.box h8 h.l8 k8, fun g hg ht => ?_, by rw [heap_putN_eq h8, splice_all (by simp [rcell])], k8.at h11 (Ne.symm h.ne), h.ne, h.l8, h.l11⟩
  rcases N g hg with h1 | h1
  · exact h.dis g h1 ht
  · have := h.t.disk.lt ht; omega
theorem Duo.does {W w : World} {p r pt rt p8 p11 j : Nat} {qa sa ra qt st rr : Value} {da dt : DS} (h : Duo W w p r pt rt p8 p11 qa sa ra qt st rr da dt j) (hj : j < 1000000) {kind n m : Int} {v : Value} {bs : List Int} (hx : Rd W v bs) (hb : Go.Proofs.byt bs) (hn : -9223372036854775808 ≤ n ∧ n ≤ 9223372036854775807) :
    Calls Try.prog 10 #[.pointer (some ⟨p, 0, none⟩), rv sa ra da, .agg #[.int .i64 kind, .int .i64 n, .int .i64 m, v]] w (Ret fun u w' => DoTo w w' p r qa (actD da kind n m bs) u) := h.a.do hj hx hb hn
set_option maxHeartbeats 6400000 in
theorem twins_ok (w : World) (q : Option Addr) (nn c : Nat) (xs : List (Array Value)) (q1 : Option Addr) (n1 c1 : Nat) (xs1 : List (Array Value)) (q2 : Option Addr) (n2 c2 : Nat) (xs2 : List (Array Value))
    (hA : ActsAt w q nn c xs) (hA1 : ActsAt w q1 n1 c1 xs1) (hA2 : ActsAt w q2 n2 c2 xs2) :
    Calls Try.prog 5 #[.slice q nn c, .slice q1 n1 c1, .slice q2 n2 c2] w (Ret fun u w' => u = .bool true ∧ Ext w w') := by
  refine calls_of_cfg c5_ok (Nat.le_of_ble_eq_true rfl) ?_
  simp only [argE_nil, argE_cons, Nat.reduceAdd, Nat.zero_add]
  have hz4 : zc [(2, Value.slice none 0 0), (1, .int .i64 0), (1, .bool false)] = #[.slice none 0 0, .slice none 0 0, .int .i64 0, .bool false] := rfl
  have hof : okO (some (.cells #[.slice none 0 0, .slice none 0 0, .int .i64 0, .bool false] 30 (0, 0))) 0 4 = True := by simp [okO]
  have hokr : ∀ (sv rq : Value) (d : DS), okO (some (.cells (rcell sv rq d) 30 (0, 0))) 0 4 = True := fun sv rq d => by simp [okO, rcell]
  have x4 : ∀ (sv rq : Value) (d : DS), (rcell sv rq d).extract 0 (0 + 4) = rcell sv rq d := fun _ _ _ => rfl
  have s4 : ∀ (sv rq : Value) (d : DS), (rcell sv rq d).size = 4 := fun _ _ _ => rfl
  have hrv : ∀ (sv rq : Value) (d : DS), Value.agg (rcell sv rq d) = rv sv rq d := fun _ _ _ => rfl
  (refine W_at c5_ok ?_; refine ⟨_, rfl, ?_⟩; simp (disch := first | omega | assumption | rfl | (simp only [vcS] <;> omega) | fail) only [↓ptV_l, ↓vcA, vcB, ↓vcD, vcE, ↓reduceIte, Nat.reduceEqDiff, Nat.reduceAdd, Nat.reduceMul, Nat.reduceLeDiff, Int.reduceLE, Int.reduceLT, Int.reduceEq, Int.reduceToNat, Int.reduceAdd, Int.reduceSub, Int.reduceMul, Int.reduceNeg, reduceCtorEq, Option.bind_some, Option.map_some, List.length_cons, List.length_nil, vcM, List.getElem?_toArray, List.getElem?_cons_zero, List.getElem?_cons_succ])
  (refine W_at c5_ok ?_; refine ⟨_, rfl, ?_⟩; simp (disch := first | omega | assumption | rfl | (simp only [vcS] <;> omega) | fail) only [↓ptV_l, ↓vcA, vcB, ↓vcD, vcE, ↓reduceIte, Nat.reduceEqDiff, Nat.reduceAdd, Nat.reduceMul, Nat.reduceLeDiff, Int.reduceLE, Int.reduceLT, Int.reduceEq, Int.reduceToNat, Int.reduceAdd, Int.reduceSub, Int.reduceMul, Int.reduceNeg, reduceCtorEq, Option.bind_some, Option.map_some, List.length_cons, List.length_nil, vcM, List.getElem?_toArray, List.getElem?_cons_zero, List.getElem?_cons_succ])
  refine callV_ret (awake_ok w) ?_
  rintro _ w1 ⟨rfl, hE1⟩
  first | (simp (disch := first | omega | assumption | rfl | (simp only [vcS] <;> omega) | fail) only [↓ptV_l, ↓vcA, vcB, ↓vcD, vcE, ↓reduceIte, Nat.reduceEqDiff, Nat.reduceAdd, Nat.reduceMul, Nat.reduceLeDiff, Int.reduceLE, Int.reduceLT, Int.reduceEq, Int.reduceToNat, Int.reduceAdd, Int.reduceSub, Int.reduceMul, Int.reduceNeg, reduceCtorEq, Option.bind_some, Option.map_some, List.length_cons, List.length_nil, vcM, List.getElem?_toArray, List.getElem?_cons_zero, List.getElem?_cons_succ]) | skip
  (refine W_at c5_ok ?_; refine ⟨_, rfl, ?_⟩; simp (disch := first | omega | assumption | rfl | (simp only [vcS] <;> omega) | fail) only [↓ptV_l, ↓vcA, vcB, ↓vcD, vcE, ↓reduceIte, Nat.reduceEqDiff, Nat.reduceAdd, Nat.reduceMul, Nat.reduceLeDiff, Int.reduceLE, Int.reduceLT, Int.reduceEq, Int.reduceToNat, Int.reduceAdd, Int.reduceSub, Int.reduceMul, Int.reduceNeg, reduceCtorEq, Option.bind_some, Option.map_some, List.length_cons, List.length_nil, vcM, List.getElem?_toArray, List.getElem?_cons_zero, List.getElem?_cons_succ])
  (refine W_at c5_ok ?_; refine ⟨_, rfl, ?_⟩; simp (disch := first | omega | assumption | rfl | (simp only [vcS] <;> omega) | fail) only [↓ptV_l, ↓vcA, vcB, ↓vcD, vcE, ↓reduceIte, Nat.reduceEqDiff, Nat.reduceAdd, Nat.reduceMul, Nat.reduceLeDiff, Int.reduceLE, Int.reduceLT, Int.reduceEq, Int.reduceToNat, Int.reduceAdd, Int.reduceSub, Int.reduceMul, Int.reduceNeg, reduceCtorEq, Option.bind_some, Option.map_some, List.length_cons, List.length_nil, vcM, List.getElem?_toArray, List.getElem?_cons_zero, List.getElem?_cons_succ])
  refine callV_ret (new_ok w1 10) ?_
  rintro _ w2 ⟨p, r, rfl, hD2, hE2, hp2, hr2⟩
  first | (simp (disch := first | omega | assumption | rfl | (simp only [vcS] <;> omega) | fail) only [↓ptV_l, ↓vcA, vcB, ↓vcD, vcE, ↓reduceIte, Nat.reduceEqDiff, Nat.reduceAdd, Nat.reduceMul, Nat.reduceLeDiff, Int.reduceLE, Int.reduceLT, Int.reduceEq, Int.reduceToNat, Int.reduceAdd, Int.reduceSub, Int.reduceMul, Int.reduceNeg, reduceCtorEq, Option.bind_some, Option.map_some, List.length_cons, List.length_nil, vcM, List.getElem?_toArray, List.getElem?_cons_zero, List.getElem?_cons_succ]) | skip
  refine callV_ret (rnew_ok w2 10) ?_
  rintro _ w3 ⟨sv, rfl, hR3, hE3⟩
  rw [← hrv]
  simp (disch := first | omega | assumption | rfl | (simp only [vcS] <;> omega) | fail) only [↓ptV_l, ↓vcA, vcB, ↓vcD, vcE, ↓reduceIte, Nat.reduceEqDiff, Nat.reduceAdd, Nat.reduceMul, Nat.reduceLeDiff, Int.reduceLE, Int.reduceLT, Int.reduceEq, Int.reduceToNat, Int.reduceAdd, Int.reduceSub, Int.reduceMul, Int.reduceNeg, reduceCtorEq, Option.bind_some, Option.map_some, List.length_cons, List.length_nil, vcM, List.getElem?_toArray, List.getElem?_cons_zero, List.getElem?_cons_succ, hz4, s4]
  refine ⟨rc_flat (w := w) hR3.safe.one rfl, by simp, ?_⟩
  have hb8 : ((w3.alloc (.cells #[.slice none 0 0, .slice none 0 0, .int .i64 0, .bool false] 30)).putN w3.heap.size 0 (rcell sv (.slice none 0 0) (newD 10))).heap[w3.heap.size]? = some (.cells (rcell sv (.slice none 0 0) (newD 10)) 30 (0, 0)) := by
    rw [heap_putN_eq (heap_new _ _ _ rfl), splice_all (by simp [rcell])]
  have hE4 : Ext w3 ((w3.alloc (.cells #[.slice none 0 0, .slice none 0 0, .int .i64 0, .bool false] 30)).putN w3.heap.size 0 (rcell sv (.slice none 0 0) (newD 10))) := ((Keep.refl _ w3).alloc _).putN _ (by intro hh; exfalso; omega)
  generalize World.putN _ _ _ _ = w4 at hb8 hE4 ⊢
  have hp8 : w.heap.size ≤ w3.heap.size := ((hE1.ext hE2).ext hE3).size
  generalize w3.heap.size = p8 at hb8 hp8 ⊢
  have z1 := hE1.size
  have B4 : Both w w4 p r (.slice none 0 0) sv (.slice none 0 0) (newD 10) 0 := ⟨(hD2.ext hE3).ext hE4, hR3.ext hE4, newD_ok 10, by simp [newD], ((hE1.ext hE2).ext hE3).ext hE4, fun g hg => by
    rcases hg with h | h | h
    · omega
    · omega
    · cases h⟩
  clear hD2 hR3
  -- the two, each on its way
  have ways : ∀ (wj : World) (pt rt p11 : Nat) (qa sa ra qt st rr : Value) (da dt : DS), Duo w wj p r pt rt p8 p11 qa sa ra qt st rr da dt 20 →
      W Try.prog (Ret fun u w' => u = .bool true ∧ Ext w w') 5 18 [(1, .slice q1 n1 c1), (2, .slice q2 n2 c2), (7, .pointer (some ⟨p, 0, none⟩)), (8, .pointer (some ⟨p8, 0, none⟩)), (10, .pointer (some ⟨pt, 0, none⟩)), (11, .pointer (some ⟨p11, 0, none⟩))] wj := by
    intro wj pt rt p11 qa sa ra qt st rr da dt D
    have L : ∀ (k i : Nat) (wj : World) (qa sa ra qt st rr : Value) (da dt : DS) (j : Nat), k + i = 12 → j ≤ 20 + 2 * i → Duo w wj p r pt rt p8 p11 qa sa ra qt st rr da dt j →
        W Try.prog (Ret fun u w' => u = .bool true ∧ Ext w w') 5 17 [(1, .slice q1 n1 c1), (2, .slice q2 n2 c2), (7, .pointer (some ⟨p, 0, none⟩)), (8, .pointer (some ⟨p8, 0, none⟩)), (10, .pointer (some ⟨pt, 0, none⟩)), (11, .pointer (some ⟨p11, 0, none⟩)), (12, .int .i64 (i : Nat))] wj := by
      intro k
      induction k with
      | zero =>
        intro i wj qa sa ra qt st rr da dt j hi hj D
        have e1 : ¬ ((i : Nat) : Int) < 12 := by omega
        (refine W_at c5_ok ?_; refine ⟨_, rfl, ?_⟩; simp (disch := first | omega | assumption | rfl | (simp only [vcS] <;> omega) | fail) only [↓ptV_l, ↓vcA, vcB, ↓vcD, vcE, ↓reduceIte, Nat.reduceEqDiff, Nat.reduceAdd, Nat.reduceMul, Nat.reduceLeDiff, Int.reduceLE, Int.reduceLT, Int.reduceEq, Int.reduceToNat, Int.reduceAdd, Int.reduceSub, Int.reduceMul, Int.reduceNeg, reduceCtorEq, Option.bind_some, Option.map_some, List.length_cons, List.length_nil, vcM, List.getElem?_toArray, List.getElem?_cons_zero, List.getElem?_cons_succ, e1])
        (refine W_at c5_ok ?_; refine ⟨_, rfl, ?_⟩; simp (disch := first | omega | assumption | rfl | (simp only [vcS] <;> omega) | fail) only [↓ptV_l, ↓vcA, vcB, ↓vcD, vcE, ↓reduceIte, Nat.reduceEqDiff, Nat.reduceAdd, Nat.reduceMul, Nat.reduceLeDiff, Int.reduceLE, Int.reduceLT, Int.reduceEq, Int.reduceToNat, Int.reduceAdd, Int.reduceSub, Int.reduceMul, Int.reduceNeg, reduceCtorEq, Option.bind_some, Option.map_some, List.length_cons, List.length_nil, vcM, List.getElem?_toArray, List.getElem?_cons_zero, List.getElem?_cons_succ])
        (refine W_at c5_ok ?_; refine ⟨_, rfl, ?_⟩; simp (disch := first | omega | assumption | rfl | (simp only [vcS] <;> omega) | fail) only [↓ptV_l, ↓vcA, vcB, ↓vcD, vcE, ↓reduceIte, Nat.reduceEqDiff, Nat.reduceAdd, Nat.reduceMul, Nat.reduceLeDiff, Int.reduceLE, Int.reduceLT, Int.reduceEq, Int.reduceToNat, Int.reduceAdd, Int.reduceSub, Int.reduceMul, Int.reduceNeg, reduceCtorEq, Option.bind_some, Option.map_some, List.length_cons, List.length_nil, vcM, List.getElem?_toArray, List.getElem?_cons_zero, List.getElem?_cons_succ])
        (refine W_at c5_ok ?_; refine ⟨_, rfl, ?_⟩; simp (disch := first | omega | assumption | rfl | (simp only [vcS] <;> omega) | fail) only [↓ptV_l, ↓vcA, vcB, ↓vcD, vcE, ↓reduceIte, Nat.reduceEqDiff, Nat.reduceAdd, Nat.reduceMul, Nat.reduceLeDiff, Int.reduceLE, Int.reduceLT, Int.reduceEq, Int.reduceToNat, Int.reduceAdd, Int.reduceSub, Int.reduceMul, Int.reduceNeg, reduceCtorEq, Option.bind_some, Option.map_some, List.length_cons, List.length_nil, vcM, List.getElem?_toArray, List.getElem?_cons_zero, List.getElem?_cons_succ, Ret_returned])
        exact D.a.grown
      | succ k ih =>
        intro i wj qa sa ra qt st rr da dt j hi hj D
        have e1 : ((i : Nat) : Int) < 12 := by omega
        have hwi : IntKind.i64.wrap (((i : Nat) : Int) + 1) = ((i + 1 : Nat) : Int) := wrap_i64 (by omega) (by omega)
        have at8 : ∀ (wj : World) (qa sa ra qt st rr : Value) (da dt : DS) (j : Nat) (tl : Env), j ≤ 20 + 2 * i + 2 → Duo w wj p r pt rt p8 p11 qa sa ra qt st rr da dt j →
            W Try.prog (Ret fun u w' => u = .bool true ∧ Ext w w') 5 8 ((1, .slice q1 n1 c1) :: (2, .slice q2 n2 c2) :: (7, .pointer (some ⟨p, 0, none⟩)) :: (8, .pointer (some ⟨p8, 0, none⟩)) :: (10, .pointer (some ⟨pt, 0, none⟩)) :: (11, .pointer (some ⟨p11, 0, none⟩)) :: (12, .int .i64 (i : Nat)) :: (13, .bool true) :: (14, .bool true) :: tl) wj := by
          intro wj qa sa ra qt st rr da dt j tl hj D
          have b8 := D.b8
          have b11 := D.b11
          (refine W_at c5_ok ?_; refine ⟨_, rfl, ?_⟩; simp (disch := first | omega | assumption | rfl | (simp only [vcS] <;> omega) | fail) only [↓vcL1, ptS2_eq, ↓vcA, vcB, ↓vcD, vcE, ↓reduceIte, Nat.reduceEqDiff, Nat.reduceAdd, Nat.reduceMul, Nat.reduceLeDiff, Int.reduceLE, Int.reduceLT, Int.reduceEq, Int.reduceToNat, Int.reduceAdd, Int.reduceSub, Int.reduceMul, Int.reduceNeg, reduceCtorEq, Option.bind_some, Option.map_some, List.length_cons, List.length_nil, vcM, List.getElem?_toArray, List.getElem?_cons_zero, List.getElem?_cons_succ, b8, b11, x4, s4, hrv])
          refine callV_ret (is_ok wj p r qa sa ra da D.a.disk D.a.doc D.a.ok) ?_
          rintro _ wk ⟨rfl, hEk⟩
          have D2 := D.ext hEk
          have b112 := D2.b11
          simp (disch := first | omega | assumption | rfl | (simp only [vcS] <;> omega) | fail) only [↓vcL2, ptS1_eq, ↓vcA, vcB, ↓vcD, vcE, ↓reduceIte, Nat.reduceEqDiff, Nat.reduceAdd, Nat.reduceMul, Nat.reduceLeDiff, Int.reduceLE, Int.reduceLT, Int.reduceEq, Int.reduceToNat, Int.reduceAdd, Int.reduceSub, Int.reduceMul, Int.reduceNeg, reduceCtorEq, Option.bind_some, Option.map_some, List.length_cons, List.length_nil, vcM, List.getElem?_toArray, List.getElem?_cons_zero, List.getElem?_cons_succ, b112, x4, s4, hrv]
          refine callV_ret (is_ok wk pt rt qt st rr dt D2.t.disk D2.t.doc D2.t.ok) ?_
          rintro _ wl ⟨rfl, hEl⟩
          simp (disch := first | omega | assumption | rfl | (simp only [vcS] <;> omega) | fail) only [↓vcL1, ptS2_eq, ↓vcA, vcB, ↓vcD, vcE, ↓reduceIte, Nat.reduceEqDiff, Nat.reduceAdd, Nat.reduceMul, Nat.reduceLeDiff, Int.reduceLE, Int.reduceLT, Int.reduceEq, Int.reduceToNat, Int.reduceAdd, Int.reduceSub, Int.reduceMul, Int.reduceNeg, reduceCtorEq, Option.bind_some, Option.map_some, List.length_cons, List.length_nil, vcM, List.getElem?_toArray, List.getElem?_cons_zero, List.getElem?_cons_succ]
          (refine W_at c5_ok ?_; refine ⟨_, rfl, ?_⟩; simp (disch := first | omega | assumption | rfl | (simp only [vcS] <;> omega) | fail) only [↓ptV_l, ↓vcA, vcB, ↓vcD, vcE, ↓reduceIte, Nat.reduceEqDiff, Nat.reduceAdd, Nat.reduceMul, Nat.reduceLeDiff, Int.reduceLE, Int.reduceLT, Int.reduceEq, Int.reduceToNat, Int.reduceAdd, Int.reduceSub, Int.reduceMul, Int.reduceNeg, reduceCtorEq, Option.bind_some, Option.map_some, List.length_cons, List.length_nil, vcM, List.getElem?_toArray, List.getElem?_cons_zero, List.getElem?_cons_succ])
          (refine W_at c5_ok ?_; refine ⟨_, rfl, ?_⟩; simp (disch := first | omega | assumption | rfl | (simp only [vcS] <;> omega) | fail) only [↓ptV_l, ↓vcA, vcB, ↓vcD, vcE, ↓reduceIte, Nat.reduceEqDiff, Nat.reduceAdd, Nat.reduceMul, Nat.reduceLeDiff, Int.reduceLE, Int.reduceLT, Int.reduceEq, Int.reduceToNat, Int.reduceAdd, Int.reduceSub, Int.reduceMul, Int.reduceNeg, reduceCtorEq, Option.bind_some, Option.map_some, List.length_cons, List.length_nil, vcM, List.getElem?_toArray, List.getElem?_cons_zero, List.getElem?_cons_succ, hwi])
          (refine W_at c5_ok ?_; refine ⟨_, rfl, ?_⟩; simp (disch := first | omega | assumption | rfl | (simp only [vcS] <;> omega) | fail) only [↓ptV_l, ↓vcA, vcB, ↓vcD, vcE, ↓reduceIte, Nat.reduceEqDiff, Nat.reduceAdd, Nat.reduceMul, Nat.reduceLeDiff, Int.reduceLE, Int.reduceLT, Int.reduceEq, Int.reduceToNat, Int.reduceAdd, Int.reduceSub, Int.reduceMul, Int.reduceNeg, reduceCtorEq, Option.bind_some, Option.map_some, List.length_cons, List.length_nil, vcM, List.getElem?_toArray, List.getElem?_cons_zero, List.getElem?_cons_succ])
          exact ih (i + 1) wl qa sa ra qt st rr da dt j (by omega) (by omega) (D2.ext hEl)
        have at11 : ∀ (wj : World) (qa sa ra qt st rr : Value) (da dt : DS) (j : Nat) (tl : Env), j ≤ 20 + 2 * i + 1 → Duo w wj p r pt rt p8 p11 qa sa ra qt st rr da dt j →
            W Try.prog (Ret fun u w' => u = .bool true ∧ Ext w w') 5 11 ((1, .slice q1 n1 c1) :: (2, .slice q2 n2 c2) :: (7, .pointer (some ⟨p, 0, none⟩)) :: (8, .pointer (some ⟨p8, 0, none⟩)) :: (10, .pointer (some ⟨pt, 0, none⟩)) :: (11, .pointer (some ⟨p11, 0, none⟩)) :: (12, .int .i64 (i : Nat)) :: (13, .bool true) :: (14, .bool true) :: tl) wj := by
          intro wj qa sa ra qt st rr da dt j tl hj D
          by_cases e2 : ((i : Nat) : Int) < (n2 : Nat)
          · obtain ⟨b, o, kind, a, m, v, bs, hq, hr, hv, hbb, hn⟩ := hA2.act D.a.grown (i := i) (by omega)
            have cw : 0 ≤ ((i : Nat) : Int) ∧ ((i : Nat) : Int) < (n2 : Nat) := by omega
            have b11 := D.b11
            subst hq
            (refine W_at c5_ok ?_; refine ⟨_, rfl, ?_⟩; simp (disch := first | omega | assumption | rfl | (simp only [vcS] <;> omega) | fail) only [↓ptV_l, ↓vcA, vcB, ↓vcD, vcE, ↓reduceIte, Nat.reduceEqDiff, Nat.reduceAdd, Nat.reduceMul, Nat.reduceLeDiff, Int.reduceLE, Int.reduceLT, Int.reduceEq, Int.reduceToNat, Int.reduceAdd, Int.reduceSub, Int.reduceMul, Int.reduceNeg, reduceCtorEq, Option.bind_some, Option.map_some, List.length_cons, List.length_nil, vcM, List.getElem?_toArray, List.getElem?_cons_zero, List.getElem?_cons_succ, e2])
            (refine W_at c5_ok ?_; refine ⟨_, rfl, ?_⟩; simp (disch := first | omega | assumption | rfl | (simp only [vcS] <;> omega) | fail) only [↓ptV_l, ↓vcA, vcB, ↓vcD, vcE, ↓reduceIte, Nat.reduceEqDiff, Nat.reduceAdd, Nat.reduceMul, Nat.reduceLeDiff, Int.reduceLE, Int.reduceLT, Int.reduceEq, Int.reduceToNat, Int.reduceAdd, Int.reduceSub, Int.reduceMul, Int.reduceNeg, reduceCtorEq, Option.bind_some, Option.map_some, List.length_cons, List.length_nil, vcM, List.getElem?_toArray, List.getElem?_cons_zero, List.getElem?_cons_succ])
            (refine W_at c5_ok ?_; refine ⟨_, rfl, ?_⟩; simp (disch := first | omega | assumption | rfl | (simp only [vcS] <;> omega) | fail) only [↓ptV_l, ↓vcA, vcB, ↓vcD, vcE, ↓reduceIte, Nat.reduceEqDiff, Nat.reduceAdd, Nat.reduceMul, Nat.reduceLeDiff, Int.reduceLE, Int.reduceLT, Int.reduceEq, Int.reduceToNat, Int.reduceAdd, Int.reduceSub, Int.reduceMul, Int.reduceNeg, reduceCtorEq, Option.bind_some, Option.map_some, List.length_cons, List.length_nil, vcM, List.getElem?_toArray, List.getElem?_cons_zero, List.getElem?_cons_succ, cw, hr, Int.toNat_natCast, b11, x4, s4, hrv])
            have Dd := (D.ext (show Ext wj wj.drew from (Keep.refl _ wj).drew)).swap
            refine callV_ret (Dd.does (by omega) hv hbb hn) ?_
            intro u wk hk
            obtain ⟨qv', sv', rq', rfl, h11k, hfl, D'⟩ := Dd.act (by omega) hbb hn hk
            rw [← hrv]
            simp (disch := first | omega | assumption | rfl | (simp only [vcS] <;> omega) | fail) only [↓ptV_l, ↓vcA, vcB, ↓vcD, vcE, ↓reduceIte, Nat.reduceEqDiff, Nat.reduceAdd, Nat.reduceMul, Nat.reduceLeDiff, Int.reduceLE, Int.reduceLT, Int.reduceEq, Int.reduceToNat, Int.reduceAdd, Int.reduceSub, Int.reduceMul, Int.reduceNeg, reduceCtorEq, Option.bind_some, Option.map_some, List.length_cons, List.length_nil, vcM, List.getElem?_toArray, List.getElem?_cons_zero, List.getElem?_cons_succ, s4, h11k, hokr]
            refine ⟨hfl, ?_⟩
            exact at8 _ _ _ _ _ _ _ _ _ (j + 1) [] (by omega) D'.swap
          · (refine W_at c5_ok ?_; refine ⟨_, rfl, ?_⟩; simp (disch := first | omega | assumption | rfl | (simp only [vcS] <;> omega) | fail) only [↓ptV_l, ↓vcA, vcB, ↓vcD, vcE, ↓reduceIte, Nat.reduceEqDiff, Nat.reduceAdd, Nat.reduceMul, Nat.reduceLeDiff, Int.reduceLE, Int.reduceLT, Int.reduceEq, Int.reduceToNat, Int.reduceAdd, Int.reduceSub, Int.reduceMul, Int.reduceNeg, reduceCtorEq, Option.bind_some, Option.map_some, List.length_cons, List.length_nil, vcM, List.getElem?_toArray, List.getElem?_cons_zero, List.getElem?_cons_succ, e2])
            (refine W_at c5_ok ?_; refine ⟨_, rfl, ?_⟩; simp (disch := first | omega | assumption | rfl | (simp only [vcS] <;> omega) | fail) only [↓ptV_l, ↓vcA, vcB, ↓vcD, vcE, ↓reduceIte, Nat.reduceEqDiff, Nat.reduceAdd, Nat.reduceMul, Nat.reduceLeDiff, Int.reduceLE, Int.reduceLT, Int.reduceEq, Int.reduceToNat, Int.reduceAdd, Int.reduceSub, Int.reduceMul, Int.reduceNeg, reduceCtorEq, Option.bind_some, Option.map_some, List.length_cons, List.length_nil, vcM, List.getElem?_toArray, List.getElem?_cons_zero, List.getElem?_cons_succ])
            exact at8 wj qa sa ra qt st rr da dt j _ (by omega) D
        (refine W_at c5_ok ?_; refine ⟨_, rfl, ?_⟩; simp (disch := first | omega | assumption | rfl | (simp only [vcS] <;> omega) | fail) only [↓ptV_l, ↓vcA, vcB, ↓vcD, vcE, ↓reduceIte, Nat.reduceEqDiff, Nat.reduceAdd, Nat.reduceMul, Nat.reduceLeDiff, Int.reduceLE, Int.reduceLT, Int.reduceEq, Int.reduceToNat, Int.reduceAdd, Int.reduceSub, Int.reduceMul, Int.reduceNeg, reduceCtorEq, Option.bind_some, Option.map_some, List.length_cons, List.length_nil, vcM, List.getElem?_toArray, List.getElem?_cons_zero, List.getElem?_cons_succ, e1])
        (refine W_at c5_ok ?_; refine ⟨_, rfl, ?_⟩; simp (disch := first | omega | assumption | rfl | (simp only [vcS] <;> omega) | fail) only [↓ptV_l, ↓vcA, vcB, ↓vcD, vcE, ↓reduceIte, Nat.reduceEqDiff, Nat.reduceAdd, Nat.reduceMul, Nat.reduceLeDiff, Int.reduceLE, Int.reduceLT, Int.reduceEq, Int.reduceToNat, Int.reduceAdd, Int.reduceSub, Int.reduceMul, Int.reduceNeg, reduceCtorEq, Option.bind_some, Option.map_some, List.length_cons, List.length_nil, vcM, List.getElem?_toArray, List.getElem?_cons_zero, List.getElem?_cons_succ])
        (refine W_at c5_ok ?_; refine ⟨_, rfl, ?_⟩; simp (disch := first | omega | assumption | rfl | (simp only [vcS] <;> omega) | fail) only [↓ptV_l, ↓vcA, vcB, ↓vcD, vcE, ↓reduceIte, Nat.reduceEqDiff, Nat.reduceAdd, Nat.reduceMul, Nat.reduceLeDiff, Int.reduceLE, Int.reduceLT, Int.reduceEq, Int.reduceToNat, Int.reduceAdd, Int.reduceSub, Int.reduceMul, Int.reduceNeg, reduceCtorEq, Option.bind_some, Option.map_some, List.length_cons, List.length_nil, vcM, List.getElem?_toArray, List.getElem?_cons_zero, List.getElem?_cons_succ])
        by_cases e2 : ((i : Nat) : Int) < (n1 : Nat)
        · obtain ⟨b, o, kind, a, m, v, bs, hq, hr, hv, hbb, hn⟩ := hA1.act D.a.grown (i := i) (by omega)
          have cw : 0 ≤ ((i : Nat) : Int) ∧ ((i : Nat) : Int) < (n1 : Nat) := by omega
          have b8 := D.b8
          subst hq
          (refine W_at c5_ok ?_; refine ⟨_, rfl, ?_⟩; simp (disch := first | omega | assumption | rfl | (simp only [vcS] <;> omega) | fail) only [↓ptV_l, ↓vcA, vcB, ↓vcD, vcE, ↓reduceIte, Nat.reduceEqDiff, Nat.reduceAdd, Nat.reduceMul, Nat.reduceLeDiff, Int.reduceLE, Int.reduceLT, Int.reduceEq, Int.reduceToNat, Int.reduceAdd, Int.reduceSub, Int.reduceMul, Int.reduceNeg, reduceCtorEq, Option.bind_some, Option.map_some, List.length_cons, List.length_nil, vcM, List.getElem?_toArray, List.getElem?_cons_zero, List.getElem?_cons_succ, e2])
          (refine W_at c5_ok ?_; refine ⟨_, rfl, ?_⟩; simp (disch := first | omega | assumption | rfl | (simp only [vcS] <;> omega) | fail) only [↓ptV_l, ↓vcA, vcB, ↓vcD, vcE, ↓reduceIte, Nat.reduceEqDiff, Nat.reduceAdd, Nat.reduceMul, Nat.reduceLeDiff, Int.reduceLE, Int.reduceLT, Int.reduceEq, Int.reduceToNat, Int.reduceAdd, Int.reduceSub, Int.reduceMul, Int.reduceNeg, reduceCtorEq, Option.bind_some, Option.map_some, List.length_cons, List.length_nil, vcM, List.getElem?_toArray, List.getElem?_cons_zero, List.getElem?_cons_succ])
          (refine W_at c5_ok ?_; refine ⟨_, rfl, ?_⟩; simp (disch := first | omega | assumption | rfl | (simp only [vcS] <;> omega) | fail) only [↓ptV_l, ↓vcA, vcB, ↓vcD, vcE, ↓reduceIte, Nat.reduceEqDiff, Nat.reduceAdd, Nat.reduceMul, Nat.reduceLeDiff, Int.reduceLE, Int.reduceLT, Int.reduceEq, Int.reduceToNat, Int.reduceAdd, Int.reduceSub, Int.reduceMul, Int.reduceNeg, reduceCtorEq, Option.bind_some, Option.map_some, List.length_cons, List.length_nil, vcM, List.getElem?_toArray, List.getElem?_cons_zero, List.getElem?_cons_succ, cw, hr, Int.toNat_natCast, b8, x4, s4, hrv])
          have Dd := D.ext (show Ext wj wj.drew from (Keep.refl _ wj).drew)
          refine callV_ret (Dd.does (by omega) hv hbb hn) ?_
          intro u wk hk
          obtain ⟨qv', sv', rq', rfl, h8k, hfl, D'⟩ := Dd.act (by omega) hbb hn hk
          rw [← hrv]
          simp (disch := first | omega | assumption | rfl | (simp only [vcS] <;> omega) | fail) only [↓ptV_l, ↓vcA, vcB, ↓vcD, vcE, ↓reduceIte, Nat.reduceEqDiff, Nat.reduceAdd, Nat.reduceMul, Nat.reduceLeDiff, Int.reduceLE, Int.reduceLT, Int.reduceEq, Int.reduceToNat, Int.reduceAdd, Int.reduceSub, Int.reduceMul, Int.reduceNeg, reduceCtorEq, Option.bind_some, Option.map_some, List.length_cons, List.length_nil, vcM, List.getElem?_toArray, List.getElem?_cons_zero, List.getElem?_cons_succ, s4, h8k, hokr]
          refine ⟨hfl, ?_⟩
          exact at11 _ _ _ _ _ _ _ _ _ (j + 1) [] (by omega) D'
        · (refine W_at c5_ok ?_; refine ⟨_, rfl, ?_⟩; simp (disch := first | omega | assumption | rfl | (simp only [vcS] <;> omega) | fail) only [↓ptV_l, ↓vcA, vcB, ↓vcD, vcE, ↓reduceIte, Nat.reduceEqDiff, Nat.reduceAdd, Nat.reduceMul, Nat.reduceLeDiff, Int.reduceLE, Int.reduceLT, Int.reduceEq, Int.reduceToNat, Int.reduceAdd, Int.reduceSub, Int.reduceMul, Int.reduceNeg, reduceCtorEq, Option.bind_some, Option.map_some, List.length_cons, List.length_nil, vcM, List.getElem?_toArray, List.getElem?_cons_zero, List.getElem?_cons_succ, e2])
          (refine W_at c5_ok ?_; refine ⟨_, rfl, ?_⟩; simp (disch := first | omega | assumption | rfl | (simp only [vcS] <;> omega) | fail) only [↓ptV_l, ↓vcA, vcB, ↓vcD, vcE, ↓reduceIte, Nat.reduceEqDiff, Nat.reduceAdd, Nat.reduceMul, Nat.reduceLeDiff, Int.reduceLE, Int.reduceLT, Int.reduceEq, Int.reduceToNat, Int.reduceAdd, Int.reduceSub, Int.reduceMul, Int.reduceNeg, reduceCtorEq, Option.bind_some, Option.map_some, List.length_cons, List.length_nil, vcM, List.getElem?_toArray, List.getElem?_cons_zero, List.getElem?_cons_succ])
          exact at11 wj qa sa ra qt st rr da dt j _ (by omega) D
    (refine W_at c5_ok ?_; refine ⟨_, rfl, ?_⟩; simp (disch := first | omega | assumption | rfl | (simp only [vcS] <;> omega) | fail) only [↓ptV_l, ↓vcA, vcB, ↓vcD, vcE, ↓reduceIte, Nat.reduceEqDiff, Nat.reduceAdd, Nat.reduceMul, Nat.reduceLeDiff, Int.reduceLE, Int.reduceLT, Int.reduceEq, Int.reduceToNat, Int.reduceAdd, Int.reduceSub, Int.reduceMul, Int.reduceNeg, reduceCtorEq, Option.bind_some, Option.map_some, List.length_cons, List.length_nil, vcM, List.getElem?_toArray, List.getElem?_cons_zero, List.getElem?_cons_succ])
    exact L 12 0 wj qa sa ra qt st rr da dt 20 (by omega) (by omega) D
  -- a twin is made
  have twin : ∀ (j : Nat) (wj : World) (qv sv rq : Value) (d : DS) (tl : Env), j ≤ 20 → Both w wj p r qv sv rq d j → wj.heap[p8]? = some (.cells (rcell sv rq d) 30 (0, 0)) →
      W Try.prog (Ret fun u w' => u = .bool true ∧ Ext w w') 5 19 ((0, .slice q nn c) :: (1, .slice q1 n1 c1) :: (2, .slice q2 n2 c2) :: (7, .pointer (some ⟨p, 0, none⟩)) :: (8, .pointer (some ⟨p8, 0, none⟩)) :: tl) wj := by
    intro j wj qv sv rq d tl hj B h8
    have hEd : Ext wj wj.drew := (Keep.refl _ wj).drew
    have a8 : ∀ o', (wj.drew.alloc o').heap[p8]? = some (.cells (rcell sv rq d) 30 (0, 0)) := fun o' => (hEd.alloc o').at h8 (fun h => h)
    have hl8 := (Array.getElem?_eq_some_iff.1 h8).1
    have hz := B.grown.size
    have x4' := x4 sv rq d
    have s4' := s4 sv rq d
    (refine W_at c5_ok ?_; refine ⟨_, rfl, ?_⟩; simp (disch := first | omega | assumption | rfl | (simp only [vcS] <;> omega) | fail) only [↓ptV_l, ↓vcA, vcB, ↓vcD, vcE, ↓reduceIte, Nat.reduceEqDiff, Nat.reduceAdd, Nat.reduceMul, Nat.reduceLeDiff, Int.reduceLE, Int.reduceLT, Int.reduceEq, Int.reduceToNat, Int.reduceAdd, Int.reduceSub, Int.reduceMul, Int.reduceNeg, reduceCtorEq, Option.bind_some, Option.map_some, List.length_cons, List.length_nil, vcM, List.getElem?_toArray, List.getElem?_cons_zero, List.getElem?_cons_succ, h8, x4', s4', hz4, a8])
    have Bd := B.ext hEd
    have fin : ∀ (wk wl : World) (pt rt : Nat) (qt : Value) (p11 : Nat), Ext wj wk → DAt wk pt rt qt d → (∀ g, DB pt rt qt g → wj.heap.size ≤ g) → wj.heap.size ≤ p11 → Keep (fun g => g = p11) wk wl → (∀ g, DB pt rt qt g → g ≠ p11) →
        wl.heap[p11]? = some (.cells (rcell sv rq d) 30 (0, 0)) → W Try.prog (Ret fun u w' => u = .bool true ∧ Ext w w') 5 18 [(1, .slice q1 n1 c1), (2, .slice q2 n2 c2), (7, .pointer (some ⟨p, 0, none⟩)), (8, .pointer (some ⟨p8, 0, none⟩)), (10, .pointer (some ⟨pt, 0, none⟩)), (11, .pointer (some ⟨p11, 0, none⟩))] wl := by
      intro wk wl pt rt qt p11 hEk hDt hbt hl11 hk hne h11
      have hEl : Ext wj wl := hEk.trans hk fun g hg e => by omega
      refine ways wl pt rt p11 qv sv rq qt sv rq d d ⟨(B.ext hEl).mono hj, ⟨hDt.keep hk hne, (B.ext hEl).doc, B.ok, Nat.le_trans B.que hj, (B.ext hEl).grown, fun g hg => by have := hbt g hg; omega⟩, fun g hg ht => ?_, hEl.at h8 (fun h => h), h11, by omega, hp8, by omega⟩
      have h1 := B.disk.lt hg
      have h2 := hbt g ht
      omega
    refine ⟨?_, ?_⟩
    · refine callV_ret (twin_ok wj.drew p r qv d Bd.disk Bd.ok) ?_
      rintro _ wk ⟨pt, rt, qt, rfl, hDt, hEk, hbt⟩
      have h8k := (hEd.ext hEk).at h8 (fun h => h)
      have h8l := (hEk.alloc (.cells #[.slice none 0 0, .slice none 0 0, .int .i64 0, .bool false] 30)).at (show wj.drew.heap[p8]? = _ from h8) (fun h => h)
      have hz2 := (hEd.ext hEk).size
      simp (disch := first | omega | assumption | rfl | (simp only [vcS] <;> omega) | fail) only [↓ptV_l, ↓vcA, vcB, ↓vcD, vcE, ↓reduceIte, Nat.reduceEqDiff, Nat.reduceAdd, Nat.reduceMul, Nat.reduceLeDiff, Int.reduceLE, Int.reduceLT, Int.reduceEq, Int.reduceToNat, Int.reduceAdd, Int.reduceSub, Int.reduceMul, Int.reduceNeg, reduceCtorEq, Option.bind_some, Option.map_some, List.length_cons, List.length_nil, vcM, List.getElem?_toArray, List.getElem?_cons_zero, List.getElem?_cons_succ, h8k, h8l, x4', s4']
      refine ⟨rc_flat (w := w) B.doc.safe.one B.doc.queue.one, by simp, ?_⟩
      have h11 : ((wk.alloc (.cells #[.slice none 0 0, .slice none 0 0, .int .i64 0, .bool false] 30)).putN wk.heap.size 0 (rcell sv rq d)).heap[wk.heap.size]? = some (.cells (rcell sv rq d) 30 (0, 0)) := by
        rw [heap_putN_eq (heap_new _ _ _ rfl), splice_all (by simp [rcell])]
      exact fin wk _ pt rt qt _ (hEd.ext hEk) hDt hbt (by omega) (((Keep.refl _ wk).alloc _).putN _ fun _ => rfl) (fun g hg e => by have := hDt.lt hg; omega) h11
    · have h8a := a8 (.cells #[.slice none 0 0, .slice none 0 0, .int .i64 0, .bool false] 30)
      have Ba := Bd.ext (show Ext wj.drew (wj.drew.alloc (.cells #[.slice none 0 0, .slice none 0 0, .int .i64 0, .bool false] 30)) from (Keep.refl _ _).alloc _)
      have hEa : Ext wj (wj.drew.alloc (.cells #[.slice none 0 0, .slice none 0 0, .int .i64 0, .bool false] 30)) := hEd.alloc _
      have h11a : (wj.drew.alloc (.cells #[.slice none 0 0, .slice none 0 0, .int .i64 0, .bool false] 30)).heap[wj.heap.size]? = some (.cells #[.slice none 0 0, .slice none 0 0, .int .i64 0, .bool false] 30 (0, 0)) := heap_new _ _ _ rfl
      refine callV_ret (twin_ok _ p r qv d Ba.disk Ba.ok) ?_
      generalize World.alloc _ _ = wa at h8a Ba hEa h11a
      rintro _ wk ⟨pt, rt, qt, rfl, hDt, hEk, hbt⟩
      have h8k := hEk.at h8a (fun h => h)
      have h11k := hEk.at h11a (fun h => h)
      have hl11 := (Array.getElem?_eq_some_iff.1 h11a).1
      simp (disch := first | omega | assumption | rfl | (simp only [vcS] <;> omega) | fail) only [↓ptV_l, ↓vcA, vcB, ↓vcD, vcE, ↓reduceIte, Nat.reduceEqDiff, Nat.reduceAdd, Nat.reduceMul, Nat.reduceLeDiff, Int.reduceLE, Int.reduceLT, Int.reduceEq, Int.reduceToNat, Int.reduceAdd, Int.reduceSub, Int.reduceMul, Int.reduceNeg, reduceCtorEq, Option.bind_some, Option.map_some, List.length_cons, List.length_nil, vcM, List.getElem?_toArray, List.getElem?_cons_zero, List.getElem?_cons_succ, h8k, h11k, hof, x4', s4']
      refine ⟨rc_flat (w := w) B.doc.safe.one B.doc.queue.one, ?_⟩
      have h11 : (wk.putN wj.heap.size 0 (rcell sv rq d)).heap[wj.heap.size]? = some (.cells (rcell sv rq d) 30 (0, 0)) := by
        rw [heap_putN_eq h11k, splice_all (by simp [rcell])]
      exact fin wk _ pt rt qt _ (hEa.ext hEk) hDt (fun g hg => by have := hbt g hg; omega) (Nat.le_refl _) ((Keep.refl _ wk).putN _ fun _ => rfl) (fun g hg e => by have := hbt g hg; omega) h11
  have L : ∀ (k j : Nat) (wj : World) (qv sv rq : Value) (d : DS), k + j = 20 → Both w wj p r qv sv rq d j → wj.heap[p8]? = some (.cells (rcell sv rq d) 30 (0, 0)) →
      W Try.prog (Ret fun u w' => u = .bool true ∧ Ext w w') 5 24 [(0, .slice q nn c), (1, .slice q1 n1 c1), (2, .slice q2 n2 c2), (7, .pointer (some ⟨p, 0, none⟩)), (8, .pointer (some ⟨p8, 0, none⟩)), (9, .int .i64 (j : Nat))] wj := by
    intro k
    induction k with
    | zero =>
      intro j wj qv sv rq d hj B h8
      have e2 : ¬ ((j : Nat) : Int) < 20 := by omega
      by_cases e1 : ((j : Nat) : Int) < (nn : Nat)
      · (refine W_at c5_ok ?_; refine ⟨_, rfl, ?_⟩; simp (disch := first | omega | assumption | rfl | (simp only [vcS] <;> omega) | fail) only [↓ptV_l, ↓vcA, vcB, ↓vcD, vcE, ↓reduceIte, Nat.reduceEqDiff, Nat.reduceAdd, Nat.reduceMul, Nat.reduceLeDiff, Int.reduceLE, Int.reduceLT, Int.reduceEq, Int.reduceToNat, Int.reduceAdd, Int.reduceSub, Int.reduceMul, Int.reduceNeg, reduceCtorEq, Option.bind_some, Option.map_some, List.length_cons, List.length_nil, vcM, List.getElem?_toArray, List.getElem?_cons_zero, List.getElem?_cons_succ, e1, e2])
        (refine W_at c5_ok ?_; refine ⟨_, rfl, ?_⟩; simp (disch := first | omega | assumption | rfl | (simp only [vcS] <;> omega) | fail) only [↓ptV_l, ↓vcA, vcB, ↓vcD, vcE, ↓reduceIte, Nat.reduceEqDiff, Nat.reduceAdd, Nat.reduceMul, Nat.reduceLeDiff, Int.reduceLE, Int.reduceLT, Int.reduceEq, Int.reduceToNat, Int.reduceAdd, Int.reduceSub, Int.reduceMul, Int.reduceNeg, reduceCtorEq, Option.bind_some, Option.map_some, List.length_cons, List.length_nil, vcM, List.getElem?_toArray, List.getElem?_cons_zero, List.getElem?_cons_succ])
        exact twin j wj qv sv rq d _ (by omega) B h8
      · (refine W_at c5_ok ?_; refine ⟨_, rfl, ?_⟩; simp (disch := first | omega | assumption | rfl | (simp only [vcS] <;> omega) | fail) only [↓ptV_l, ↓vcA, vcB, ↓vcD, vcE, ↓reduceIte, Nat.reduceEqDiff, Nat.reduceAdd, Nat.reduceMul, Nat.reduceLeDiff, Int.reduceLE, Int.reduceLT, Int.reduceEq, Int.reduceToNat, Int.reduceAdd, Int.reduceSub, Int.reduceMul, Int.reduceNeg, reduceCtorEq, Option.bind_some, Option.map_some, List.length_cons, List.length_nil, vcM, List.getElem?_toArray, List.getElem?_cons_zero, List.getElem?_cons_succ, e1])
        (refine W_at c5_ok ?_; refine ⟨_, rfl, ?_⟩; simp (disch := first | omega | assumption | rfl | (simp only [vcS] <;> omega) | fail) only [↓ptV_l, ↓vcA, vcB, ↓vcD, vcE, ↓reduceIte, Nat.reduceEqDiff, Nat.reduceAdd, Nat.reduceMul, Nat.reduceLeDiff, Int.reduceLE, Int.reduceLT, Int.reduceEq, Int.reduceToNat, Int.reduceAdd, Int.reduceSub, Int.reduceMul, Int.reduceNeg, reduceCtorEq, Option.bind_some, Option.map_some, List.length_cons, List.length_nil, vcM, List.getElem?_toArray, List.getElem?_cons_zero, List.getElem?_cons_succ])
        exact twin j wj qv sv rq d _ (by omega) B h8
    | succ k ih =>
      intro j wj qv sv rq d hj B h8
      have e2 : ((j : Nat) : Int) < 20 := by omega
      by_cases e1 : ((j : Nat) : Int) < (nn : Nat)
      · obtain ⟨b, o, kind, a, m, v, bs, hq, hr, hv, hbb, hn⟩ := hA.act B.grown (i := j) (by omega)
        have cw : 0 ≤ ((j : Nat) : Int) ∧ ((j : Nat) : Int) < (nn : Nat) := by omega
        have hwj : IntKind.i64.wrap (((j : Nat) : Int) + 1) = ((j + 1 : Nat) : Int) := wrap_i64 (by omega) (by omega)
        subst hq
        (refine W_at c5_ok ?_; refine ⟨_, rfl, ?_⟩; simp (disch := first | omega | assumption | rfl | (simp only [vcS] <;> omega) | fail) only [↓ptV_l, ↓vcA, vcB, ↓vcD, vcE, ↓reduceIte, Nat.reduceEqDiff, Nat.reduceAdd, Nat.reduceMul, Nat.reduceLeDiff, Int.reduceLE, Int.reduceLT, Int.reduceEq, Int.reduceToNat, Int.reduceAdd, Int.reduceSub, Int.reduceMul, Int.reduceNeg, reduceCtorEq, Option.bind_some, Option.map_some, List.length_cons, List.length_nil, vcM, List.getElem?_toArray, List.getElem?_cons_zero, List.getElem?_cons_succ, e1, e2])
        (refine W_at c5_ok ?_; refine ⟨_, rfl, ?_⟩; simp (disch := first | omega | assumption | rfl | (simp only [vcS] <;> omega) | fail) only [↓ptV_l, ↓vcA, vcB, ↓vcD, vcE, ↓reduceIte, Nat.reduceEqDiff, Nat.reduceAdd, Nat.reduceMul, Nat.reduceLeDiff, Int.reduceLE, Int.reduceLT, Int.reduceEq, Int.reduceToNat, Int.reduceAdd, Int.reduceSub, Int.reduceMul, Int.reduceNeg, reduceCtorEq, Option.bind_some, Option.map_some, List.length_cons, List.length_nil, vcM, List.getElem?_toArray, List.getElem?_cons_zero, List.getElem?_cons_succ])
        (refine W_at c5_ok ?_; refine ⟨_, rfl, ?_⟩; simp (disch := first | omega | assumption | rfl | (simp only [vcS] <;> omega) | fail) only [↓ptV_l, ↓vcA, vcB, ↓vcD, vcE, ↓reduceIte, Nat.reduceEqDiff, Nat.reduceAdd, Nat.reduceMul, Nat.reduceLeDiff, Int.reduceLE, Int.reduceLT, Int.reduceEq, Int.reduceToNat, Int.reduceAdd, Int.reduceSub, Int.reduceMul, Int.reduceNeg, reduceCtorEq, Option.bind_some, Option.map_some, List.length_cons, List.length_nil, vcM, List.getElem?_toArray, List.getElem?_cons_zero, List.getElem?_cons_succ, cw, hr, Int.toNat_natCast, h8, x4, s4, hrv])
        have Bd := B.ext (show Ext wj wj.drew from (Keep.refl _ wj).drew)
        refine callV_ret (Bd.do (by omega) hv hbb hn) ?_
        intro u wk hk
        obtain ⟨qv', sv', rq', rfl, Bk, hKk, hNk⟩ := Bd.act (by omega) hbb hn hk
        have h8k := hKk.at (show wj.drew.heap[p8]? = _ from h8) (Both_box_ne Bd.disk h8)
        rw [← hrv]
        simp (disch := first | omega | assumption | rfl | (simp only [vcS] <;> omega) | fail) only [↓ptV_l, ↓vcA, vcB, ↓vcD, vcE, ↓reduceIte, Nat.reduceEqDiff, Nat.reduceAdd, Nat.reduceMul, Nat.reduceLeDiff, Int.reduceLE, Int.reduceLT, Int.reduceEq, Int.reduceToNat, Int.reduceAdd, Int.reduceSub, Int.reduceMul, Int.reduceNeg, reduceCtorEq, Option.bind_some, Option.map_some, List.length_cons, List.length_nil, vcM, List.getElem?_toArray, List.getElem?_cons_zero, List.getElem?_cons_succ, s4, h8k, hokr]
        refine ⟨rc_flat (w := w) Bk.doc.safe.one Bk.doc.queue.one, ?_⟩
        have h88 : (wk.putN p8 0 (rcell sv' rq' (actD d kind a m bs))).heap[p8]? = some (.cells (rcell sv' rq' (actD d kind a m bs)) 30 (0, 0)) := by
          rw [heap_putN_eq h8k, splice_all (by simp [rcell])]
        have k8 : Keep (fun k => k = p8) wk (wk.putN p8 0 (rcell sv' rq' (actD d kind a m bs))) := (Keep.refl _ wk).putN _ fun _ => rfl
        have B8 := Bk.box h8k hp8 k8
        generalize World.putN _ _ _ _ = wl at h88 B8 ⊢
        (refine W_at c5_ok ?_; refine ⟨_, rfl, ?_⟩; simp (disch := first | omega | assumption | rfl | (simp only [vcS] <;> omega) | fail) only [↓ptV_l, ↓vcA, vcB, ↓vcD, vcE, ↓reduceIte, Nat.reduceEqDiff, Nat.reduceAdd, Nat.reduceMul, Nat.reduceLeDiff, Int.reduceLE, Int.reduceLT, Int.reduceEq, Int.reduceToNat, Int.reduceAdd, Int.reduceSub, Int.reduceMul, Int.reduceNeg, reduceCtorEq, Option.bind_some, Option.map_some, List.length_cons, List.length_nil, vcM, List.getElem?_toArray, List.getElem?_cons_zero, List.getElem?_cons_succ, hwj])
        (refine W_at c5_ok ?_; refine ⟨_, rfl, ?_⟩; simp (disch := first | omega | assumption | rfl | (simp only [vcS] <;> omega) | fail) only [↓ptV_l, ↓vcA, vcB, ↓vcD, vcE, ↓reduceIte, Nat.reduceEqDiff, Nat.reduceAdd, Nat.reduceMul, Nat.reduceLeDiff, Int.reduceLE, Int.reduceLT, Int.reduceEq, Int.reduceToNat, Int.reduceAdd, Int.reduceSub, Int.reduceMul, Int.reduceNeg, reduceCtorEq, Option.bind_some, Option.map_some, List.length_cons, List.length_nil, vcM, List.getElem?_toArray, List.getElem?_cons_zero, List.getElem?_cons_succ])
        exact ih (j + 1) wl qv' sv' rq' _ (by omega) B8 h88
      · (refine W_at c5_ok ?_; refine ⟨_, rfl, ?_⟩; simp (disch := first | omega | assumption | rfl | (simp only [vcS] <;> omega) | fail) only [↓ptV_l, ↓vcA, vcB, ↓vcD, vcE, ↓reduceIte, Nat.reduceEqDiff, Nat.reduceAdd, Nat.reduceMul, Nat.reduceLeDiff, Int.reduceLE, Int.reduceLT, Int.reduceEq, Int.reduceToNat, Int.reduceAdd, Int.reduceSub, Int.reduceMul, Int.reduceNeg, reduceCtorEq, Option.bind_some, Option.map_some, List.length_cons, List.length_nil, vcM, List.getElem?_toArray, List.getElem?_cons_zero, List.getElem?_cons_succ, e1])
        (refine W_at c5_ok ?_; refine ⟨_, rfl, ?_⟩; simp (disch := first | omega | assumption | rfl | (simp only [vcS] <;> omega) | fail) only [↓ptV_l, ↓vcA, vcB, ↓vcD, vcE, ↓reduceIte, Nat.reduceEqDiff, Nat.reduceAdd, Nat.reduceMul, Nat.reduceLeDiff, Int.reduceLE, Int.reduceLT, Int.reduceEq, Int.reduceToNat, Int.reduceAdd, Int.reduceSub, Int.reduceMul, Int.reduceNeg, reduceCtorEq, Option.bind_some, Option.map_some, List.length_cons, List.length_nil, vcM, List.getElem?_toArray, List.getElem?_cons_zero, List.getElem?_cons_succ])
        exact twin j wj qv sv rq d _ (by omega) B h8
  (refine W_at c5_ok ?_; refine ⟨_, rfl, ?_⟩; simp (disch := first | omega | assumption | rfl | (simp only [vcS] <;> omega) | fail) only [↓ptV_l, ↓vcA, vcB, ↓vcD, vcE, ↓reduceIte, Nat.reduceEqDiff, Nat.reduceAdd, Nat.reduceMul, Nat.reduceLeDiff, Int.reduceLE, Int.reduceLT, Int.reduceEq, Int.reduceToNat, Int.reduceAdd, Int.reduceSub, Int.reduceMul, Int.reduceNeg, reduceCtorEq, Option.bind_some, Option.map_some, List.length_cons, List.length_nil, vcM, List.getElem?_toArray, List.getElem?_cons_zero, List.getElem?_cons_succ])
  exact L 20 0 w4 _ _ _ _ (by omega) B4 hb8
end Go.Proofs
