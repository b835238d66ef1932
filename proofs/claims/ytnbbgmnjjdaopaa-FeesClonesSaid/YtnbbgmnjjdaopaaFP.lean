/- Two books beside each other. -/
import Derived.Test.YtnbbgmnjjdaopaaFO
import Derived.Test.YtnbbgmnjjdaopaaFF
set_option linter.unusedSimpArgs false
set_option linter.unusedVariables false
set_option linter.constructorNameAsVariable false
namespace Go.Proofs
open Go.Vc Go.Proofs.Fees
set_option maxRecDepth 10000

theorem played2_ok (w : World) (q : Option Addr) (n c : Nat) (xs : List (Array Value)) (ha : ActsAt w q n c xs) :
    Calls Try.prog 12 #[.slice q n c] w (Ret fun u w' => ∃ b m cnt rc v ws, u = .tuple #[.pointer (some ⟨b, 0, none⟩), .agg (refC rc v)] ∧ Both w w' 60 b m cnt rc v ws ∧ Dist ws) := by
  refine calls_of_cfg c12_ok (Nat.le_of_ble_eq_true rfl) ?_
  simp only [argE_nil, argE_cons, Nat.reduceAdd, Nat.zero_add]
  (refine W_at c12_ok ?_; refine ⟨_, rfl, ?_⟩; simp (disch := first | omega | assumption | rfl | (simp only [vcS] <;> omega) | fail) only [↓ptV_l, ↓vcA, vcB, ↓vcD, vcE, ↓reduceIte, Nat.reduceEqDiff, Nat.reduceAdd, Nat.reduceMul, Nat.reduceLeDiff, Int.reduceLE, Int.reduceLT, Int.reduceEq, Int.reduceToNat, Int.reduceAdd, Int.reduceSub, Int.reduceMul, Int.reduceNeg, reduceCtorEq, Option.bind_some, Option.map_some, List.length_cons, List.length_nil, vcM, List.getElem?_toArray, List.getElem?_cons_zero, List.getElem?_cons_succ])
  (refine W_at c12_ok ?_; refine ⟨_, rfl, ?_⟩; simp (disch := first | omega | assumption | rfl | (simp only [vcS] <;> omega) | fail) only [↓ptV_l, ↓vcA, vcB, ↓vcD, vcE, ↓reduceIte, Nat.reduceEqDiff, Nat.reduceAdd, Nat.reduceMul, Nat.reduceLeDiff, Int.reduceLE, Int.reduceLT, Int.reduceEq, Int.reduceToNat, Int.reduceAdd, Int.reduceSub, Int.reduceMul, Int.reduceNeg, reduceCtorEq, Option.bind_some, Option.map_some, List.length_cons, List.length_nil, vcM, List.getElem?_toArray, List.getElem?_cons_zero, List.getElem?_cons_succ])
  simp only [zc_refC]
  have hzf : flat (refC (List.replicate 312 0) (.slice none 0 0)) := refC_flat rfl
  have hzs : (refC (List.replicate 312 0) (.slice none 0 0)).size = 313 := by rw [size_refC, List.length_replicate]
  generalize hzr : refC (List.replicate 312 0) (.slice none 0 0) = z0 at hzf hzs ⊢
  have hE1 : Ext w (w.alloc (Obj.cells z0 31)) := by (repeat' first | exact Keep.refl _ _ | assumption | refine Keep.drew ?_ | refine Keep.alloc ?_ _ | refine Keep.putN ?_ _ ?_ | refine Keep.setCell ?_ _ ?_ | refine Keep.setO ?_ _ ?_ | exact fun _ => Or.inl rfl | exact fun _ => Or.inr rfl | exact fun _ => rfl | (intro hh; exfalso; ((try simp only [vcS] at hh) <;> omega)))
  have hp3 : (w.alloc (Obj.cells z0 31)).heap[w.heap.size]? = some (.cells z0 31 (0, 0)) := heap_new _ _ _ rfl
  have hp3w : w.heap.size < (w.alloc (Obj.cells z0 31)).heap.size := by rw [size_alloc]; omega
  generalize hp3e : w.heap.size = p3 at hp3 hp3w ⊢
  generalize World.alloc _ _ = w1 at hE1 hp3 hp3w ⊢
  refine callV_ret (new_ok w1) ?_
  rintro _ w2 ⟨rfl, rfl⟩
  refine ⟨hzf, ?_⟩
  have hB := (Both.start w1).pre hE1
  have hp3' : (w1.alloc (Obj.cells (bookC (List.replicate 312 0) none) 67)).heap[p3]? = some (.cells z0 31 (0, 0)) := by rw [heap_old _ _ _ (by omega)]; exact hp3
  have hbw : w1.heap.size < (w1.alloc (Obj.cells (bookC (List.replicate 312 0) none) 67)).heap.size := by rw [size_alloc]; omega
  generalize w1.heap.size = b at hB hp3w hbw ⊢
  generalize World.alloc _ _ = w2 at hB hp3' hbw ⊢
  have hB' := hB.keep (show Ext w2 (w2.alloc (Obj.cells z0 31)) by (repeat' first | exact Keep.refl _ _ | assumption | refine Keep.drew ?_ | refine Keep.alloc ?_ _ | refine Keep.putN ?_ _ ?_ | refine Keep.setCell ?_ _ ?_ | refine Keep.setO ?_ _ ?_ | exact fun _ => Or.inl rfl | exact fun _ => Or.inr rfl | exact fun _ => rfl | (intro hh; exfalso; ((try simp only [vcS] at hh) <;> omega))))
  have hp5 : (w2.alloc (Obj.cells z0 31)).heap[w2.heap.size]? = some (.cells z0 31 (0, 0)) := heap_new _ _ _ rfl
  have hp3'' : (w2.alloc (Obj.cells z0 31)).heap[p3]? = some (.cells z0 31 (0, 0)) := by rw [heap_old _ _ _ (by omega)]; exact hp3'
  have hB2 := hB'.put hp5 (by rw [hp3e]; omega) z0
  have hp5' : ((w2.alloc (Obj.cells z0 31)).putN w2.heap.size 0 z0).heap[w2.heap.size]? = some (.cells z0 31 (0, 0)) := by rw [heap_putN_eq hp5, splice_all rfl]
  have hp3f : ((w2.alloc (Obj.cells z0 31)).putN w2.heap.size 0 z0).heap[p3]? = some (.cells z0 31 (0, 0)) := by rw [heap_putN_ne _ _ _ _ _ (by omega)]; exact hp3''
  have h35 : p3 < w2.heap.size := by omega
  generalize w2.heap.size = p5 at hp5' hp3f h35 hB2 ⊢
  generalize World.putN _ _ _ _ = w3 at hp5' hp3f hB2 ⊢
  (refine W_at c12_ok ?_; refine ⟨_, rfl, ?_⟩; simp (disch := first | omega | assumption | rfl | (simp only [vcS] <;> omega) | fail) only [↓ptV_l, ↓vcA, vcB, ↓vcD, vcE, ↓reduceIte, Nat.reduceEqDiff, Nat.reduceAdd, Nat.reduceMul, Nat.reduceLeDiff, Int.reduceLE, Int.reduceLT, Int.reduceEq, Int.reduceToNat, Int.reduceAdd, Int.reduceSub, Int.reduceMul, Int.reduceNeg, reduceCtorEq, Option.bind_some, Option.map_some, List.length_cons, List.length_nil, vcM, List.getElem?_toArray, List.getElem?_cons_zero, List.getElem?_cons_succ])
  have hend : ∀ (i : Nat) (wj : World) (m : Option Nat) (cnt rc : List Int) (v : Value) (ws : List WE) (tl : Env), i ≤ 60 → Dist ws → Both w wj i b m cnt rc v ws → wj.heap[p3]? = some (.cells z0 31 (0, 0)) → wj.heap[p5]? = some (.cells (refC rc v) 31 (0, 0)) →
      W Try.prog (Ret fun u w' => ∃ b m cnt rc v ws, u = .tuple #[.pointer (some ⟨b, 0, none⟩), .agg (refC rc v)] ∧ Both w w' 60 b m cnt rc v ws ∧ Dist ws) 12 2
        ((0, .slice q n c) :: (3, .pointer (some ⟨p3, 0, none⟩)) :: (4, .pointer (some ⟨b, 0, none⟩)) :: (5, .pointer (some ⟨p5, 0, none⟩)) :: tl) wj := by
    intro i wj m cnt rc v ws tl hi hd hB hp3 hp5
    have hsz : (refC rc v).size = 313 := by rw [size_refC, hB.rel.l2]
    have hrf := refC_flat (rc := rc) (one_row hB.row.1)
    have hq : (wj.drew.putN p3 0 (refC rc v)).heap[p3]? = some (.cells (refC rc v) 31 (0, 0)) := by rw [heap_putN_eq (show wj.drew.heap[p3]? = _ from hp3), splice_all (by rw [hsz, hzs])]
    (refine W_at c12_ok ?_; refine ⟨_, rfl, ?_⟩; simp (disch := first | omega | assumption | rfl | (simp only [vcS] <;> omega) | fail) only [↓ptV_l, ↓vcA, vcB, ↓vcD, vcE, ↓reduceIte, Nat.reduceEqDiff, Nat.reduceAdd, Nat.reduceMul, Nat.reduceLeDiff, Int.reduceLE, Int.reduceLT, Int.reduceEq, Int.reduceToNat, Int.reduceAdd, Int.reduceSub, Int.reduceMul, Int.reduceNeg, reduceCtorEq, Option.bind_some, Option.map_some, List.length_cons, List.length_nil, vcM, List.getElem?_toArray, List.getElem?_cons_zero, List.getElem?_cons_succ, hp3, hp5, hsz, hzs, ext_all, hrf])
    (refine W_at c12_ok ?_; refine ⟨_, rfl, ?_⟩; simp (disch := first | omega | assumption | rfl | (simp only [vcS] <;> omega) | fail) only [↓ptV_l, ↓vcA, vcB, ↓vcD, vcE, ↓reduceIte, Nat.reduceEqDiff, Nat.reduceAdd, Nat.reduceMul, Nat.reduceLeDiff, Int.reduceLE, Int.reduceLT, Int.reduceEq, Int.reduceToNat, Int.reduceAdd, Int.reduceSub, Int.reduceMul, Int.reduceNeg, reduceCtorEq, Option.bind_some, Option.map_some, List.length_cons, List.length_nil, vcM, List.getElem?_toArray, List.getElem?_cons_zero, List.getElem?_cons_succ, hq, hsz, ext_all, Ret_returned])
    exact ⟨b, m, cnt, rc, v, ws, rfl, ((hB.keep (Keep.drew (Keep.refl _ wj))).put hp3 (by omega) _).mono hi, hd⟩
  have L : ∀ (k i : Nat) (wj : World) (m : Option Nat) (cnt rc : List Int) (v : Value) (ws : List WE), k + i = 60 → Dist ws → Both w wj i b m cnt rc v ws → wj.heap[p3]? = some (.cells z0 31 (0, 0)) → wj.heap[p5]? = some (.cells (refC rc v) 31 (0, 0)) →
      W Try.prog (Ret fun u w' => ∃ b m cnt rc v ws, u = .tuple #[.pointer (some ⟨b, 0, none⟩), .agg (refC rc v)] ∧ Both w w' 60 b m cnt rc v ws ∧ Dist ws) 12 7
        [(0, .slice q n c), (3, .pointer (some ⟨p3, 0, none⟩)), (4, .pointer (some ⟨b, 0, none⟩)), (5, .pointer (some ⟨p5, 0, none⟩)), (6, .int .i64 i)] wj := by
    intro k
    induction k with
    | zero =>
      intro i wj m cnt rc v ws hi hd hB hp3 hp5
      have h60 : ¬ ((i : Int) < 60) := by omega
      by_cases hin : (i : Int) < n
      · (refine W_at c12_ok ?_; refine ⟨_, rfl, ?_⟩; simp (disch := first | omega | assumption | rfl | (simp only [vcS] <;> omega) | fail) only [↓ptV_l, ↓vcA, vcB, ↓vcD, vcE, ↓reduceIte, Nat.reduceEqDiff, Nat.reduceAdd, Nat.reduceMul, Nat.reduceLeDiff, Int.reduceLE, Int.reduceLT, Int.reduceEq, Int.reduceToNat, Int.reduceAdd, Int.reduceSub, Int.reduceMul, Int.reduceNeg, reduceCtorEq, Option.bind_some, Option.map_some, List.length_cons, List.length_nil, vcM, List.getElem?_toArray, List.getElem?_cons_zero, List.getElem?_cons_succ, hin, h60])
        (refine W_at c12_ok ?_; refine ⟨_, rfl, ?_⟩; simp (disch := first | omega | assumption | rfl | (simp only [vcS] <;> omega) | fail) only [↓ptV_l, ↓vcA, vcB, ↓vcD, vcE, ↓reduceIte, Nat.reduceEqDiff, Nat.reduceAdd, Nat.reduceMul, Nat.reduceLeDiff, Int.reduceLE, Int.reduceLT, Int.reduceEq, Int.reduceToNat, Int.reduceAdd, Int.reduceSub, Int.reduceMul, Int.reduceNeg, reduceCtorEq, Option.bind_some, Option.map_some, List.length_cons, List.length_nil, vcM, List.getElem?_toArray, List.getElem?_cons_zero, List.getElem?_cons_succ])
        exact hend i wj m cnt rc v ws _ (by omega) hd hB hp3 hp5
      · (refine W_at c12_ok ?_; refine ⟨_, rfl, ?_⟩; simp (disch := first | omega | assumption | rfl | (simp only [vcS] <;> omega) | fail) only [↓ptV_l, ↓vcA, vcB, ↓vcD, vcE, ↓reduceIte, Nat.reduceEqDiff, Nat.reduceAdd, Nat.reduceMul, Nat.reduceLeDiff, Int.reduceLE, Int.reduceLT, Int.reduceEq, Int.reduceToNat, Int.reduceAdd, Int.reduceSub, Int.reduceMul, Int.reduceNeg, reduceCtorEq, Option.bind_some, Option.map_some, List.length_cons, List.length_nil, vcM, List.getElem?_toArray, List.getElem?_cons_zero, List.getElem?_cons_succ, hin])
        (refine W_at c12_ok ?_; refine ⟨_, rfl, ?_⟩; simp (disch := first | omega | assumption | rfl | (simp only [vcS] <;> omega) | fail) only [↓ptV_l, ↓vcA, vcB, ↓vcD, vcE, ↓reduceIte, Nat.reduceEqDiff, Nat.reduceAdd, Nat.reduceMul, Nat.reduceLeDiff, Int.reduceLE, Int.reduceLT, Int.reduceEq, Int.reduceToNat, Int.reduceAdd, Int.reduceSub, Int.reduceMul, Int.reduceNeg, reduceCtorEq, Option.bind_some, Option.map_some, List.length_cons, List.length_nil, vcM, List.getElem?_toArray, List.getElem?_cons_zero, List.getElem?_cons_succ])
        exact hend i wj m cnt rc v ws _ (by omega) hd hB hp3 hp5
    | succ k ih =>
      intro i wj m cnt rc v ws hi hd hB hp3 hp5
      have h60 : (i : Int) < 60 := by omega
      by_cases hin : (i : Int) < n
      · have hsz : (refC rc v).size = 313 := by rw [size_refC, hB.rel.l2]
        obtain ⟨bq, oq, rfl, hrd, _⟩ := (ha.keep hB.ext).at (i := i) (by omega)
        obtain ⟨_, _, _, _, kind, id, rate, h, q', n', c', bs, hat⟩ := ha.at (i := i) (by omega)
        have hBd := hB.keep (Keep.drew (Keep.refl _ wj))
        have hi2 : 0 ≤ (i : Int) ∧ (i : Int) < n := by omega
        have hwi : IntKind.i64.wrap ((i : Int) + 1) = ((i + 1 : Nat) : Int) := wrap_i64 (by omega) (by omega)
        (refine W_at c12_ok ?_; refine ⟨_, rfl, ?_⟩; simp (disch := first | omega | assumption | rfl | (simp only [vcS] <;> omega) | fail) only [↓ptV_l, ↓vcA, vcB, ↓vcD, vcE, ↓reduceIte, Nat.reduceEqDiff, Nat.reduceAdd, Nat.reduceMul, Nat.reduceLeDiff, Int.reduceLE, Int.reduceLT, Int.reduceEq, Int.reduceToNat, Int.reduceAdd, Int.reduceSub, Int.reduceMul, Int.reduceNeg, reduceCtorEq, Option.bind_some, Option.map_some, List.length_cons, List.length_nil, vcM, List.getElem?_toArray, List.getElem?_cons_zero, List.getElem?_cons_succ, hin, h60])
        (refine W_at c12_ok ?_; refine ⟨_, rfl, ?_⟩; simp (disch := first | omega | assumption | rfl | (simp only [vcS] <;> omega) | fail) only [↓ptV_l, ↓vcA, vcB, ↓vcD, vcE, ↓reduceIte, Nat.reduceEqDiff, Nat.reduceAdd, Nat.reduceMul, Nat.reduceLeDiff, Int.reduceLE, Int.reduceLT, Int.reduceEq, Int.reduceToNat, Int.reduceAdd, Int.reduceSub, Int.reduceMul, Int.reduceNeg, reduceCtorEq, Option.bind_some, Option.map_some, List.length_cons, List.length_nil, vcM, List.getElem?_toArray, List.getElem?_cons_zero, List.getElem?_cons_succ])
        (refine W_at c12_ok ?_; refine ⟨_, rfl, ?_⟩; simp (disch := first | omega | assumption | rfl | (simp only [vcS] <;> omega) | fail) only [↓ptV_l, ↓vcA, vcB, ↓vcD, vcE, ↓reduceIte, Nat.reduceEqDiff, Nat.reduceAdd, Nat.reduceMul, Nat.reduceLeDiff, Int.reduceLE, Int.reduceLT, Int.reduceEq, Int.reduceToNat, Int.reduceAdd, Int.reduceSub, Int.reduceMul, Int.reduceNeg, reduceCtorEq, Option.bind_some, Option.map_some, List.length_cons, List.length_nil, vcM, List.getElem?_toArray, List.getElem?_cons_zero, List.getElem?_cons_succ, hp5, hsz, ext_all, hi2, Int.toNat_natCast, hrd])
        refine callV_ret (do2_ok w wj.drew i b m cnt rc v ws _ kind id rate h q' n' c' bs hBd hat (by omega)) ?_
        rintro _ w4 ⟨⟨m', rc', cnt', v', ws', rfl, hB4, _, hd4⟩, hk4⟩
        have hp3d := hBd.own31 hp3 hk4
        have hp5d := hBd.own31 hp5 hk4
        have hrf' := refC_flat (rc := rc') (one_row hB4.row.1)
        have hsz' : (refC rc' v').size = 313 := by rw [size_refC, hB4.rel.l2]
        have hB5 := hB4.put hp5d (by omega) (refC rc' v')
        have hp5e : (w4.putN p5 0 (refC rc' v')).heap[p5]? = some (.cells (refC rc' v') 31 (0, 0)) := by rw [heap_putN_eq hp5d, splice_all (by rw [hsz, hsz'])]
        have hp3e : (w4.putN p5 0 (refC rc' v')).heap[p3]? = some (.cells z0 31 (0, 0)) := by rw [heap_putN_ne _ _ _ _ _ (by omega)]; exact hp3d
        simp (disch := first | omega | assumption | rfl | (simp only [vcS] <;> omega) | fail) only [↓ptV_l, ↓vcA, vcB, ↓vcD, vcE, ↓reduceIte, Nat.reduceEqDiff, Nat.reduceAdd, Nat.reduceMul, Nat.reduceLeDiff, Int.reduceLE, Int.reduceLT, Int.reduceEq, Int.reduceToNat, Int.reduceAdd, Int.reduceSub, Int.reduceMul, Int.reduceNeg, reduceCtorEq, Option.bind_some, Option.map_some, List.length_cons, List.length_nil, vcM, List.getElem?_toArray, List.getElem?_cons_zero, List.getElem?_cons_succ, hp5d, hsz', hsz, hrf']
        (refine W_at c12_ok ?_; refine ⟨_, rfl, ?_⟩; simp (disch := first | omega | assumption | rfl | (simp only [vcS] <;> omega) | fail) only [↓ptV_l, ↓vcA, vcB, ↓vcD, vcE, ↓reduceIte, Nat.reduceEqDiff, Nat.reduceAdd, Nat.reduceMul, Nat.reduceLeDiff, Int.reduceLE, Int.reduceLT, Int.reduceEq, Int.reduceToNat, Int.reduceAdd, Int.reduceSub, Int.reduceMul, Int.reduceNeg, reduceCtorEq, Option.bind_some, Option.map_some, List.length_cons, List.length_nil, vcM, List.getElem?_toArray, List.getElem?_cons_zero, List.getElem?_cons_succ, hwi])
        (refine W_at c12_ok ?_; refine ⟨_, rfl, ?_⟩; simp (disch := first | omega | assumption | rfl | (simp only [vcS] <;> omega) | fail) only [↓ptV_l, ↓vcA, vcB, ↓vcD, vcE, ↓reduceIte, Nat.reduceEqDiff, Nat.reduceAdd, Nat.reduceMul, Nat.reduceLeDiff, Int.reduceLE, Int.reduceLT, Int.reduceEq, Int.reduceToNat, Int.reduceAdd, Int.reduceSub, Int.reduceMul, Int.reduceNeg, reduceCtorEq, Option.bind_some, Option.map_some, List.length_cons, List.length_nil, vcM, List.getElem?_toArray, List.getElem?_cons_zero, List.getElem?_cons_succ])
        exact ih (i + 1) _ m' cnt' rc' v' ws' (by omega) (hd4 hd) hB5 hp3e hp5e
      · (refine W_at c12_ok ?_; refine ⟨_, rfl, ?_⟩; simp (disch := first | omega | assumption | rfl | (simp only [vcS] <;> omega) | fail) only [↓ptV_l, ↓vcA, vcB, ↓vcD, vcE, ↓reduceIte, Nat.reduceEqDiff, Nat.reduceAdd, Nat.reduceMul, Nat.reduceLeDiff, Int.reduceLE, Int.reduceLT, Int.reduceEq, Int.reduceToNat, Int.reduceAdd, Int.reduceSub, Int.reduceMul, Int.reduceNeg, reduceCtorEq, Option.bind_some, Option.map_some, List.length_cons, List.length_nil, vcM, List.getElem?_toArray, List.getElem?_cons_zero, List.getElem?_cons_succ, hin])
        (refine W_at c12_ok ?_; refine ⟨_, rfl, ?_⟩; simp (disch := first | omega | assumption | rfl | (simp only [vcS] <;> omega) | fail) only [↓ptV_l, ↓vcA, vcB, ↓vcD, vcE, ↓reduceIte, Nat.reduceEqDiff, Nat.reduceAdd, Nat.reduceMul, Nat.reduceLeDiff, Int.reduceLE, Int.reduceLT, Int.reduceEq, Int.reduceToNat, Int.reduceAdd, Int.reduceSub, Int.reduceMul, Int.reduceNeg, reduceCtorEq, Option.bind_some, Option.map_some, List.length_cons, List.length_nil, vcM, List.getElem?_toArray, List.getElem?_cons_zero, List.getElem?_cons_succ])
        exact hend i wj m cnt rc v ws _ (by omega) hd hB hp3 hp5
  exact L 60 0 w3 none _ _ _ _ rfl List.Pairwise.nil hB2 hp3f (by rw [hzr]; exact hp5')

/-- A book that another one's steps leave alone. -/
theorem Both.aside {w0 w w' : World} {n b c : Nat} {m m' : Option Nat} {cnt rc cnt' rc' : List Int} {v v' : Value} {ws ws' : List WE} (h : Both w0 w n b m cnt rc v ws) (a : Both w0 w n c m' cnt' rc' v' ws') (k : Keep (Own c m') w w') (dis : ∀ i, Own c m' i → ¬ Own b m i) : Both w0 w' n b m cnt rc v ws := by
  refine ⟨h.ext.trans k fun i hi ho => ?_, h.bl, h.ml, h.book.keep k (fun ho => dis b ho (.inl rfl)) fun r hr ho => dis r ho (.inr hr), h.row.keep k ?_, h.rel, h.good, h.bok, h.len⟩
  · rcases ho with rfl | ho
    · have := a.bl; omega
    · have := a.ml i ho; omega
  · rintro g hg (rfl | rfl)
    · obtain ⟨cur, hc⟩ := row_type h.row.1 hg
      rw [a.book.1] at hc; cases hc
    · obtain ⟨cur, hc⟩ := row_type h.row.1 hg
      obtain ⟨es, c, hr, _⟩ := a.book.2.2.1
      rw [hr] at hc; cases hc
/-- Two books, and the document's two. -/
structure Duo (w0 w : World) (n b c p q : Nat) (m m' : Option Nat) (cnt rc : List Int) (v : Value) (ws : List WE) (cnt' rc' : List Int) (v' : Value) (ws' : List WE) : Prop where
  a : Both w0 w n b m cnt rc v ws
  t : Both w0 w n c m' cnt' rc' v' ws'
  da : Dist ws
  dt : Dist ws'
  dis : ∀ i, Own b m i → ¬ Own c m' i
  bp : w.heap[p]? = some (.cells (refC rc v) 31 (0, 0))
  bq : w.heap[q]? = some (.cells (refC rc' v') 31 (0, 0))
  lp : w0.heap.size ≤ p
  lq : w0.heap.size ≤ q
  ne : p ≠ q
theorem Duo.swap {w0 w : World} {n b c p q : Nat} {m m' : Option Nat} {cnt rc cnt' rc' : List Int} {v v' : Value} {ws ws' : List WE} (h : Duo w0 w n b c p q m m' cnt rc v ws cnt' rc' v' ws') : Duo w0 w n c b q p m' m cnt' rc' v' ws' cnt rc v ws :=
  ⟨h.t, h.a, h.dt, h.da, fun i h1 h2 => h.dis i h2 h1, h.bq, h.bp, h.lq, h.lp, h.ne.symm⟩
theorem Duo.keep {w0 w w' : World} {n b c p q : Nat} {m m' : Option Nat} {cnt rc cnt' rc' : List Int} {v v' : Value} {ws ws' : List WE} (h : Duo w0 w n b c p q m m' cnt rc v ws cnt' rc' v' ws') (k : Ext w w') : Duo w0 w' n b c p q m m' cnt rc v ws cnt' rc' v' ws' :=
  ⟨h.a.keep k, h.t.keep k, h.da, h.dt, h.dis, k.at h.bp fun h => h, k.at h.bq fun h => h, h.lp, h.lq, h.ne⟩
theorem Duo.mono {w0 w : World} {n k b c p q : Nat} {m m' : Option Nat} {cnt rc cnt' rc' : List Int} {v v' : Value} {ws ws' : List WE} (h : Duo w0 w n b c p q m m' cnt rc v ws cnt' rc' v' ws') (hk : n ≤ k) : Duo w0 w k b c p q m m' cnt rc v ws cnt' rc' v' ws' :=
  ⟨h.a.mono hk, h.t.mono hk, h.da, h.dt, h.dis, h.bp, h.bq, h.lp, h.lq, h.ne⟩
/-- An act on the first one, and its box written. -/
theorem Duo.act {w0 w w' : World} {n b c p q : Nat} {m m' : Option Nat} {cnt rc cnt' rc' : List Int} {v v' : Value} {ws ws' : List WE} (h : Duo w0 w n b c p q m m' cnt rc v ws cnt' rc' v' ws') {u : Value} (hd : Done2 w0 w m w' n b u ws) (hk : Keep (Own b m) w w') :
    ∃ cs m2 cnt2 rc2 v2 ws2, u = .agg cs ∧ cs.size = 313 ∧ flat cs ∧ w'.heap[p]? = some (.cells (refC rc v) 31 (0, 0)) ∧ Duo w0 (w'.putN p 0 cs) (n + 1) b c p q m2 m' cnt2 rc2 v2 ws2 cnt' rc' v' ws' := by
  obtain ⟨m2, rc2, cnt2, v2, ws2, rfl, hB, hf, hds⟩ := hd
  have hp := h.a.own31 h.bp hk
  have hq := h.a.own31 h.bq hk
  have ht := h.t.aside h.a hk h.dis
  have hsz : (refC rc v).size = 313 := by rw [size_refC, h.a.rel.l2]
  have hsz2 : (refC rc2 v2).size = 313 := by rw [size_refC, hB.rel.l2]
  refine ⟨refC rc2 v2, m2, cnt2, rc2, v2, ws2, rfl, hsz2, refC_flat (one_row hB.row.1), hp, hB.put hp h.lp _, (ht.put hp h.lp _).mono (Nat.le_succ n), hds h.da, h.dt, fun i h1 h2 => ?_, ?_, ?_, h.lp, h.lq, h.ne⟩
  · rcases h1 with rfl | h1
    · exact h.dis i (.inl rfl) h2
    · rcases hf with rfl | ⟨r, rfl, hr⟩
      · exact h.dis i (.inr h1) h2
      · obtain rfl := Option.some.inj h1
        rcases h2 with h2 | h2
        · have := h.t.book.lt; omega
        · have := h.t.book.mlt r h2; omega
  · rw [heap_putN_eq hp, splice_all (by rw [hsz, hsz2])]
  · rw [heap_putN_ne _ _ _ _ _ h.ne.symm]; exact hq
end Go.Proofs
