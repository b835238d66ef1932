/- The law's 'played': both books behind some acts. -/
import Derived.Test.YtnbbgmnjjdaopaaFC
set_option linter.unusedSimpArgs false
set_option linter.unusedVariables false
set_option linter.constructorNameAsVariable false
namespace Go.Proofs
open Go.Vc Go.Proofs.Fees
set_option maxRecDepth 10000

theorem rdS_at {w : World} {q : Option Addr} {n c size : Nat} {xs : List (Array Value)} (h : rdS w size (.slice q n c) = some (xs.flatMap Array.toList).toArray) (hl : xs.length = n) (hs : ∀ x ∈ xs, x.size = size) {i : Nat} (hi : i < n) :
    ∃ b o, q = some ⟨b, o, none⟩ ∧ rdO w.heap[b]? (o + i * size) size = some xs[i] := by
  simp only [rdS] at h
  rw [if_neg (by omega)] at h
  split at h
  · rename_i b o
    refine ⟨b, o, rfl, ?_⟩
    rw [rdN_heap] at h
    cases hb : w.heap[b]? with
    | none => rw [hb] at h; cases h
    | some x =>
      rw [hb] at h
      cases x with
      | cells d t fr =>
        simp only [rdO] at h
        split at h
        · rename_i hle
          simp only [Option.some.injEq] at h
          have hle1 : (i + 1) * size ≤ n * size := Nat.mul_le_mul_right _ hi
          rw [Nat.add_mul, Nat.one_mul] at hle1
          rw [rdO_some _ _ _ _ _ (by omega)]
          congr 1
          apply Array.ext'
          have ht : ((xs.flatMap Array.toList).drop (i * size)).take size = xs[i].toList := by
            rw [flat_drop i hs, List.drop_eq_getElem_cons (by omega), List.flatMap_cons, List.take_append_of_le_length (by simp [hs _ (List.getElem_mem (show i < xs.length by omega))]), List.take_of_length_le (by simp [hs _ (List.getElem_mem (show i < xs.length by omega))])]
          have h2 : (d.extract o (o + n * size)).toList = xs.flatMap Array.toList := by rw [h]
          rw [← ht, ← h2]
          simp only [Array.toList_extract, List.extract_eq_take_drop, List.drop_take, List.take_take, List.drop_drop]
          congr 1; omega
        · cases h
      | _ => cases h
  · cases h

def ActIs (w : World) (a : Array Value) : Prop := ∃ kind id rate h q n c bs, ActAt w a kind id rate h q n c bs
structure ActsAt (w : World) (q : Option Addr) (n c : Nat) (xs : List (Array Value)) : Prop where
  len : xs.length = n
  mx : n ≤ maxLen
  rd : rdS w 5 (.slice q n c) = some (xs.flatMap Array.toList).toArray
  act : ∀ x ∈ xs, ActIs w x
theorem ActIs.size {w : World} {a : Array Value} (h : ActIs w a) : a.size = 5 := by
  obtain ⟨_, _, _, _, _, _, _, _, h⟩ := h; rw [h.eq]; rfl
theorem ActIs.flat {w : World} {a : Array Value} (h : ActIs w a) : flat a := by
  obtain ⟨_, _, _, _, _, _, _, _, h⟩ := h
  rw [h.eq]; intro x hx; simp at hx; rcases hx with rfl | rfl | rfl | rfl | rfl <;> rfl
theorem ActsAt.keep {w w' : World} {q : Option Addr} {n c : Nat} {xs : List (Array Value)} (h : ActsAt w q n c xs) (k : Ext w w') : ActsAt w' q n c xs :=
  ⟨h.len, h.mx, rdS_keep h.rd k fun _ _ h => h, fun x hx => by obtain ⟨_, _, _, _, _, _, _, _, h⟩ := h.act x hx; exact ⟨_, _, _, _, _, _, _, _, h.keep k⟩⟩
theorem ActsAt.at {w : World} {q : Option Addr} {n c : Nat} {xs : List (Array Value)} (h : ActsAt w q n c xs) {i : Nat} (hi : i < n) :
    ∃ b o, q = some ⟨b, o, none⟩ ∧ rdO w.heap[b]? (o + i * 5) 5 = some (xs[i]'(by rw [h.len]; exact hi)) ∧ ActIs w (xs[i]'(by rw [h.len]; exact hi)) := by
  obtain ⟨b, o, rfl, h1⟩ := rdS_at h.rd h.len (fun x hx => (h.act x hx).size) hi
  exact ⟨b, o, rfl, h1, h.act _ (List.getElem_mem _)⟩

/-- The document's book at its first. -/
theorem Both.start (w : World) : Both w (w.alloc (.cells (bookC (List.replicate 312 0) none) 67)) 0 w.heap.size none (List.replicate 312 0) (List.replicate 312 0) (.slice none 0 0) [] := by
  constructor
  · exact (Keep.refl _ w).alloc _
  · exact Nat.le_refl _
  · intro r h; cases h
  · refine ⟨heap_new _ _ _ rfl, List.length_replicate, ?_, ?_⟩
    · exact rfl
    · intro e h; cases h
  · exact ⟨⟨rfl, .inl ⟨rfl, rfl⟩⟩, fun _ h => by cases h⟩
  · exact Rel.zero
  · exact Good.zero
  · intro e h; cases h
  · exact Nat.le_refl _
theorem Both.pre {w0 w1 w : World} {n b : Nat} {m : Option Nat} {cnt rc : List Int} {v : Value} {ws : List WE} (h : Both w1 w n b m cnt rc v ws) (hE : Ext w0 w1) : Both w0 w n b m cnt rc v ws :=
  ⟨hE.ext h.ext, Nat.le_trans hE.size h.bl, fun r hr => Nat.le_trans hE.size (h.ml r hr), h.book, h.row, h.rel, h.good, h.bok, h.len⟩
theorem Both.keep {w0 w w' : World} {n b : Nat} {m : Option Nat} {cnt rc : List Int} {v : Value} {ws : List WE} (h : Both w0 w n b m cnt rc v ws) (hE : Ext w w') : Both w0 w' n b m cnt rc v ws :=
  ⟨h.ext.ext hE, h.bl, h.ml, h.book.keep hE (fun h => h) fun _ _ h => h, h.row.keep hE fun _ _ h => h, h.rel, h.good, h.bok, h.len⟩
theorem Both.put {w0 w : World} {n b p : Nat} {m : Option Nat} {cnt rc : List Int} {v : Value} {ws : List WE} {c0 : Array Value} (h : Both w0 w n b m cnt rc v ws) (hp : w.heap[p]? = some (.cells c0 31 (0, 0))) (h0 : w0.heap.size ≤ p) (cs : Array Value) :
    Both w0 (w.putN p 0 cs) n b m cnt rc v ws := by
  have hE : Keep (fun i => i = p) w (w.putN p 0 cs) := (Keep.refl _ w).putN _ fun _ => rfl
  refine ⟨h.ext.trans hE fun i hi (e : i = p) => by omega, h.bl, h.ml, ?_, ?_, h.rel, h.good, h.bok, h.len⟩
  · refine h.book.keep hE ?_ ?_
    · rintro (rfl : b = p)
      have := h.book.1; rw [hp] at this; cases this
    · rintro r rfl (rfl : r = p)
      obtain ⟨es, c, hr, _⟩ := h.book.2.2.1
      rw [hp] at hr; cases hr
  · refine h.row.keep hE ?_
    rintro g hg (rfl : g = p)
    obtain ⟨cur, hc⟩ := row_type h.row.1 hg
    rw [hp] at hc; cases hc
theorem Both.mono {w0 w : World} {n k b : Nat} {m : Option Nat} {cnt rc : List Int} {v : Value} {ws : List WE} (h : Both w0 w n b m cnt rc v ws) (hk : n ≤ k) : Both w0 w k b m cnt rc v ws :=
  ⟨h.ext, h.bl, h.ml, h.book, h.row, h.rel, h.good.mono (by omega), h.bok, Nat.le_trans h.len hk⟩
/-- What a step keeps of a block that is neither of the book's. -/
theorem Both.own31 {w0 w w' : World} {n b p : Nat} {m : Option Nat} {cnt rc : List Int} {v : Value} {ws : List WE} {c0 : Array Value} (h : Both w0 w n b m cnt rc v ws) (hp : w.heap[p]? = some (.cells c0 31 (0, 0))) (hk : Keep (Own b m) w w') : w'.heap[p]? = some (.cells c0 31 (0, 0)) := by
  refine hk.at hp ?_
  rintro (rfl | ho)
  · have := h.book.1; rw [hp] at this; cases this
  · subst ho
    obtain ⟨es, c, hr, _⟩ := h.book.2.2.1
    rw [hp] at hr; cases hr

theorem zc_refC : zc [(312, Value.int IntKind.i64 0), (1, Value.slice none 0 0)] = refC (List.replicate 312 0) (.slice none 0 0) := by
  simp [zc, runs, refC, ints]
theorem played_ok (w : World) (q : Option Addr) (n c : Nat) (xs : List (Array Value)) (ha : ActsAt w q n c xs) :
    Calls Try.prog 12 #[.slice q n c] w (Ret fun u w' => ∃ b m cnt rc v ws, u = .tuple #[.pointer (some ⟨b, 0, none⟩), .agg (refC rc v)] ∧ Both w w' 60 b m cnt rc v ws) := by
  refine calls_of_cfg c12_ok (Nat.le_of_ble_eq_true rfl) ?_
  simp only [argE_nil, argE_cons, Nat.reduceAdd, Nat.zero_add]
  (refine W_at c12_ok ?_; refine ⟨_, rfl, ?_⟩; simp (disch := first | omega | assumption | rfl | (simp only [vcS] <;> omega) | fail) only [↓ptV_l, ↓vcA, vcB, ↓vcD, vcE, ↓reduceIte, Nat.reduceEqDiff, Nat.reduceAdd, Nat.reduceMul, Nat.reduceLeDiff, Int.reduceLE, Int.reduceLT, Int.reduceEq, Int.reduceToNat, Int.reduceAdd, Int.reduceSub, Int.reduceMul, Int.reduceNeg, reduceCtorEq, Option.bind_some, Option.map_some, List.length_cons, List.length_nil, vcM, List.getElem?_toArray, List.getElem?_cons_zero, List.getElem?_cons_succ])
  (refine W_at c12_ok ?_; refine ⟨_, rfl, ?_⟩; simp (disch := first | omega | assumption | rfl | (simp only [vcS] <;> omega) | fail) only [↓ptV_l, ↓vcA, vcB, ↓vcD, vcE, ↓reduceIte, Nat.reduceEqDiff, Nat.reduceAdd, Nat.reduceMul, Nat.reduceLeDiff, Int.reduceLE, Int.reduceLT, Int.reduceEq, Int.reduceToNat, Int.reduceAdd, Int.reduceSub, Int.reduceMul, Int.reduceNeg, reduceCtorEq, Option.bind_some, Option.map_some, List.length_cons, List.length_nil, vcM, List.getElem?_toArray, List.getElem?_cons_zero, List.getElem?_cons_succ])
  simp only [zc_refC]
  have hzf : flat (refC (List.replicate 312 0) (.slice none 0 0)) := refC_flat rfl
  have hzs : (refC (List.replicate 312 0) (.slice none 0 0)).size = 313 := by rw [size_refC, List.length_replicate]
  generalize hzr : refC (List.replicate 312 0) (.slice none 0 0) = z0 at hzf hzs ⊢
  have hE1 : Ext w (w.alloc (Obj.cells z0 31)) := by (repeat' first | exact Keep.refl _ _ | assumption | refine Keep.drew ?_ | refine Keep.alloc ?_ _ | refine Keep.putN ?_ _ ?_ | refine Keep.setCell ?_ _ ?_ | refine Keep.setO ?_ _ ?_ | exact fun _ => Or.inl rfl | exact fun _ => Or.inr rfl | exact fun _ => rfl | (intro hh; exfalso; ((try simp only [vcS] at hh) <;> omega)))
  have hp3 : (w.alloc (Obj.cells z0 31)).heap[w.heap.size]? = some (.cells z0 31 (0, 0)) := heap_new _ _ _ rfl
  have hp3w : w.heap.size < (w.alloc (Obj.cells z0 31)).heap.size := by rw [size_alloc]; omega
  generalize hp3e : w.heap.size = p3 at hp3 hp3w ⊢
  generalize World.alloc _ _ = w1 at hE1 hp3 hp3w ⊢
  refine callV_ret (new_ok w1) ?_
  rintro _ w2 ⟨rfl, rfl⟩
  refine ⟨hzf, ?_⟩
  have hB := (Both.start w1).pre hE1
  have hp3' : (w1.alloc (Obj.cells (bookC (List.replicate 312 0) none) 67)).heap[p3]? = some (.cells z0 31 (0, 0)) := by rw [heap_old _ _ _ (by omega)]; exact hp3
  have hbw : w1.heap.size < (w1.alloc (Obj.cells (bookC (List.replicate 312 0) none) 67)).heap.size := by rw [size_alloc]; omega
  generalize w1.heap.size = b at hB hp3w hbw ⊢
  generalize World.alloc _ _ = w2 at hB hp3' hbw ⊢
  have hB' := hB.keep (show Ext w2 (w2.alloc (Obj.cells z0 31)) by (repeat' first | exact Keep.refl _ _ | assumption | refine Keep.drew ?_ | refine Keep.alloc ?_ _ | refine Keep.putN ?_ _ ?_ | refine Keep.setCell ?_ _ ?_ | refine Keep.setO ?_ _ ?_ | exact fun _ => Or.inl rfl | exact fun _ => Or.inr rfl | exact fun _ => rfl | (intro hh; exfalso; ((try simp only [vcS] at hh) <;> omega))))
  have hp5 : (w2.alloc (Obj.cells z0 31)).heap[w2.heap.size]? = some (.cells z0 31 (0, 0)) := heap_new _ _ _ rfl
  have hp3'' : (w2.alloc (Obj.cells z0 31)).heap[p3]? = some (.cells z0 31 (0, 0)) := by rw [heap_old _ _ _ (by omega)]; exact hp3'
  have hB2 := hB'.put hp5 (by rw [hp3e]; omega) z0
  have hp5' : ((w2.alloc (Obj.cells z0 31)).putN w2.heap.size 0 z0).heap[w2.heap.size]? = some (.cells z0 31 (0, 0)) := by rw [heap_putN_eq hp5, splice_all rfl]
  have hp3f : ((w2.alloc (Obj.cells z0 31)).putN w2.heap.size 0 z0).heap[p3]? = some (.cells z0 31 (0, 0)) := by rw [heap_putN_ne _ _ _ _ _ (by omega)]; exact hp3''
  have h35 : p3 < w2.heap.size := by omega
  generalize w2.heap.size = p5 at hp5' hp3f h35 hB2 ⊢
  generalize World.putN _ _ _ _ = w3 at hp5' hp3f hB2 ⊢
  (refine W_at c12_ok ?_; refine ⟨_, rfl, ?_⟩; simp (disch := first | omega | assumption | rfl | (simp only [vcS] <;> omega) | fail) only [↓ptV_l, ↓vcA, vcB, ↓vcD, vcE, ↓reduceIte, Nat.reduceEqDiff, Nat.reduceAdd, Nat.reduceMul, Nat.reduceLeDiff, Int.reduceLE, Int.reduceLT, Int.reduceEq, Int.reduceToNat, Int.reduceAdd, Int.reduceSub, Int.reduceMul, Int.reduceNeg, reduceCtorEq, Option.bind_some, Option.map_some, List.length_cons, List.length_nil, vcM, List.getElem?_toArray, List.getElem?_cons_zero, List.getElem?_cons_succ])
  have hend : ∀ (i : Nat) (wj : World) (m : Option Nat) (cnt rc : List Int) (v : Value) (ws : List WE) (tl : Env), i ≤ 60 → Both w wj i b m cnt rc v ws → wj.heap[p3]? = some (.cells z0 31 (0, 0)) → wj.heap[p5]? = some (.cells (refC rc v) 31 (0, 0)) →
      W Try.prog (Ret fun u w' => ∃ b m cnt rc v ws, u = .tuple #[.pointer (some ⟨b, 0, none⟩), .agg (refC rc v)] ∧ Both w w' 60 b m cnt rc v ws) 12 2
        ((0, .slice q n c) :: (3, .pointer (some ⟨p3, 0, none⟩)) :: (4, .pointer (some ⟨b, 0, none⟩)) :: (5, .pointer (some ⟨p5, 0, none⟩)) :: tl) wj := by
    intro i wj m cnt rc v ws tl hi hB hp3 hp5
    have hsz : (refC rc v).size = 313 := by rw [size_refC, hB.rel.l2]
    have hrf := refC_flat (rc := rc) (one_row hB.row.1)
    have hq : (wj.drew.putN p3 0 (refC rc v)).heap[p3]? = some (.cells (refC rc v) 31 (0, 0)) := by rw [heap_putN_eq (show wj.drew.heap[p3]? = _ from hp3), splice_all (by rw [hsz, hzs])]
    (refine W_at c12_ok ?_; refine ⟨_, rfl, ?_⟩; simp (disch := first | omega | assumption | rfl | (simp only [vcS] <;> omega) | fail) only [↓ptV_l, ↓vcA, vcB, ↓vcD, vcE, ↓reduceIte, Nat.reduceEqDiff, Nat.reduceAdd, Nat.reduceMul, Nat.reduceLeDiff, Int.reduceLE, Int.reduceLT, Int.reduceEq, Int.reduceToNat, Int.reduceAdd, Int.reduceSub, Int.reduceMul, Int.reduceNeg, reduceCtorEq, Option.bind_some, Option.map_some, List.length_cons, List.length_nil, vcM, List.getElem?_toArray, List.getElem?_cons_zero, List.getElem?_cons_succ, hp3, hp5, hsz, hzs, ext_all, hrf])
    (refine W_at c12_ok ?_; refine ⟨_, rfl, ?_⟩; simp (disch := first | omega | assumption | rfl | (simp only [vcS] <;> omega) | fail) only [↓ptV_l, ↓vcA, vcB, ↓vcD, vcE, ↓reduceIte, Nat.reduceEqDiff, Nat.reduceAdd, Nat.reduceMul, Nat.reduceLeDiff, Int.reduceLE, Int.reduceLT, Int.reduceEq, Int.reduceToNat, Int.reduceAdd, Int.reduceSub, Int.reduceMul, Int.reduceNeg, reduceCtorEq, Option.bind_some, Option.map_some, List.length_cons, List.length_nil, vcM, List.getElem?_toArray, List.getElem?_cons_zero, List.getElem?_cons_succ, hq, hsz, ext_all, Ret_returned])
    exact ⟨b, m, cnt, rc, v, ws, rfl, ((hB.keep (Keep.drew (Keep.refl _ wj))).put hp3 (by omega) _).mono hi⟩
  have L : ∀ (k i : Nat) (wj : World) (m : Option Nat) (cnt rc : List Int) (v : Value) (ws : List WE), k + i = 60 → Both w wj i b m cnt rc v ws → wj.heap[p3]? = some (.cells z0 31 (0, 0)) → wj.heap[p5]? = some (.cells (refC rc v) 31 (0, 0)) →
      W Try.prog (Ret fun u w' => ∃ b m cnt rc v ws, u = .tuple #[.pointer (some ⟨b, 0, none⟩), .agg (refC rc v)] ∧ Both w w' 60 b m cnt rc v ws) 12 7
        [(0, .slice q n c), (3, .pointer (some ⟨p3, 0, none⟩)), (4, .pointer (some ⟨b, 0, none⟩)), (5, .pointer (some ⟨p5, 0, none⟩)), (6, .int .i64 i)] wj := by
    intro k
    induction k with
    | zero =>
      intro i wj m cnt rc v ws hi hB hp3 hp5
      have h60 : ¬ ((i : Int) < 60) := by omega
      by_cases hin : (i : Int) < n
      · (refine W_at c12_ok ?_; refine ⟨_, rfl, ?_⟩; simp (disch := first | omega | assumption | rfl | (simp only [vcS] <;> omega) | fail) only [↓ptV_l, ↓vcA, vcB, ↓vcD, vcE, ↓reduceIte, Nat.reduceEqDiff, Nat.reduceAdd, Nat.reduceMul, Nat.reduceLeDiff, Int.reduceLE, Int.reduceLT, Int.reduceEq, Int.reduceToNat, Int.reduceAdd, Int.reduceSub, Int.reduceMul, Int.reduceNeg, reduceCtorEq, Option.bind_some, Option.map_some, List.length_cons, List.length_nil, vcM, List.getElem?_toArray, List.getElem?_cons_zero, List.getElem?_cons_succ, hin, h60])
        (refine W_at c12_ok ?_; refine ⟨_, rfl, ?_⟩; simp (disch := first | omega | assumption | rfl | (simp only [vcS] <;> omega) | fail) only [↓ptV_l, ↓vcA, vcB, ↓vcD, vcE, ↓reduceIte, Nat.reduceEqDiff, Nat.reduceAdd, Nat.reduceMul, Nat.reduceLeDiff, Int.reduceLE, Int.reduceLT, Int.reduceEq, Int.reduceToNat, Int.reduceAdd, Int.reduceSub, Int.reduceMul, Int.reduceNeg, reduceCtorEq, Option.bind_some, Option.map_some, List.length_cons, List.length_nil, vcM, List.getElem?_toArray, List.getElem?_cons_zero, List.getElem?_cons_succ])
        exact hend i wj m cnt rc v ws _ (by omega) hB hp3 hp5
      · (refine W_at c12_ok ?_; refine ⟨_, rfl, ?_⟩; simp (disch := first | omega | assumption | rfl | (simp only [vcS] <;> omega) | fail) only [↓ptV_l, ↓vcA, vcB, ↓vcD, vcE, ↓reduceIte, Nat.reduceEqDiff, Nat.reduceAdd, Nat.reduceMul, Nat.reduceLeDiff, Int.reduceLE, Int.reduceLT, Int.reduceEq, Int.reduceToNat, Int.reduceAdd, Int.reduceSub, Int.reduceMul, Int.reduceNeg, reduceCtorEq, Option.bind_some, Option.map_some, List.length_cons, List.length_nil, vcM, List.getElem?_toArray, List.getElem?_cons_zero, List.getElem?_cons_succ, hin])
        (refine W_at c12_ok ?_; refine ⟨_, rfl, ?_⟩; simp (disch := first | omega | assumption | rfl | (simp only [vcS] <;> omega) | fail) only [↓ptV_l, ↓vcA, vcB, ↓vcD, vcE, ↓reduceIte, Nat.reduceEqDiff, Nat.reduceAdd, Nat.reduceMul, Nat.reduceLeDiff, Int.reduceLE, Int.reduceLT, Int.reduceEq, Int.reduceToNat, Int.reduceAdd, Int.reduceSub, Int.reduceMul, Int.reduceNeg, reduceCtorEq, Option.bind_some, Option.map_some, List.length_cons, List.length_nil, vcM, List.getElem?_toArray, List.getElem?_cons_zero, List.getElem?_cons_succ])
        exact hend i wj m cnt rc v ws _ (by omega) hB hp3 hp5
    | succ k ih =>
      intro i wj m cnt rc v ws hi hB hp3 hp5
      have h60 : (i : Int) < 60 := by omega
      by_cases hin : (i : Int) < n
      · have hsz : (refC rc v).size = 313 := by rw [size_refC, hB.rel.l2]
        obtain ⟨bq, oq, rfl, hrd, _⟩ := (ha.keep hB.ext).at (i := i) (by omega)
        obtain ⟨_, _, _, _, kind, id, rate, h, q', n', c', bs, hat⟩ := ha.at (i := i) (by omega)
        have hBd := hB.keep (Keep.drew (Keep.refl _ wj))
        have hi2 : 0 ≤ (i : Int) ∧ (i : Int) < n := by omega
        have hwi : IntKind.i64.wrap ((i : Int) + 1) = ((i + 1 : Nat) : Int) := wrap_i64 (by omega) (by omega)
        (refine W_at c12_ok ?_; refine ⟨_, rfl, ?_⟩; simp (disch := first | omega | assumption | rfl | (simp only [vcS] <;> omega) | fail) only [↓ptV_l, ↓vcA, vcB, ↓vcD, vcE, ↓reduceIte, Nat.reduceEqDiff, Nat.reduceAdd, Nat.reduceMul, Nat.reduceLeDiff, Int.reduceLE, Int.reduceLT, Int.reduceEq, Int.reduceToNat, Int.reduceAdd, Int.reduceSub, Int.reduceMul, Int.reduceNeg, reduceCtorEq, Option.bind_some, Option.map_some, List.length_cons, List.length_nil, vcM, List.getElem?_toArray, List.getElem?_cons_zero, List.getElem?_cons_succ, hin, h60])
        (refine W_at c12_ok ?_; refine ⟨_, rfl, ?_⟩; simp (disch := first | omega | assumption | rfl | (simp only [vcS] <;> omega) | fail) only [↓ptV_l, ↓vcA, vcB, ↓vcD, vcE, ↓reduceIte, Nat.reduceEqDiff, Nat.reduceAdd, Nat.reduceMul, Nat.reduceLeDiff, Int.reduceLE, Int.reduceLT, Int.reduceEq, Int.reduceToNat, Int.reduceAdd, Int.reduceSub, Int.reduceMul, Int.reduceNeg, reduceCtorEq, Option.bind_some, Option.map_some, List.length_cons, List.length_nil, vcM, List.getElem?_toArray, List.getElem?_cons_zero, List.getElem?_cons_succ])
        (refine W_at c12_ok ?_; refine ⟨_, rfl, ?_⟩; simp (disch := first | omega | assumption | rfl | (simp only [vcS] <;> omega) | fail) only [↓ptV_l, ↓vcA, vcB, ↓vcD, vcE, ↓reduceIte, Nat.reduceEqDiff, Nat.reduceAdd, Nat.reduceMul, Nat.reduceLeDiff, Int.reduceLE, Int.reduceLT, Int.reduceEq, Int.reduceToNat, Int.reduceAdd, Int.reduceSub, Int.reduceMul, Int.reduceNeg, reduceCtorEq, Option.bind_some, Option.map_some, List.length_cons, List.length_nil, vcM, List.getElem?_toArray, List.getElem?_cons_zero, List.getElem?_cons_succ, hp5, hsz, ext_all, hi2, Int.toNat_natCast, hrd])
        refine callV_ret (do_ok w wj.drew i b m cnt rc v ws _ kind id rate h q' n' c' bs hBd hat (by omega)) ?_
        rintro _ w4 ⟨⟨m', rc', cnt', v', ws', rfl, hB4⟩, hk4⟩
        have hp3d := hBd.own31 hp3 hk4
        have hp5d := hBd.own31 hp5 hk4
        have hrf' := refC_flat (rc := rc') (one_row hB4.row.1)
        have hsz' : (refC rc' v').size = 313 := by rw [size_refC, hB4.rel.l2]
        have hB5 := hB4.put hp5d (by omega) (refC rc' v')
        have hp5e : (w4.putN p5 0 (refC rc' v')).heap[p5]? = some (.cells (refC rc' v') 31 (0, 0)) := by rw [heap_putN_eq hp5d, splice_all (by rw [hsz, hsz'])]
        have hp3e : (w4.putN p5 0 (refC rc' v')).heap[p3]? = some (.cells z0 31 (0, 0)) := by rw [heap_putN_ne _ _ _ _ _ (by omega)]; exact hp3d
        simp (disch := first | omega | assumption | rfl | (simp only [vcS] <;> omega) | fail) only [↓ptV_l, ↓vcA, vcB, ↓vcD, vcE, ↓reduceIte, Nat.reduceEqDiff, Nat.reduceAdd, Nat.reduceMul, Nat.reduceLeDiff, Int.reduceLE, Int.reduceLT, Int.reduceEq, Int.reduceToNat, Int.reduceAdd, Int.reduceSub, Int.reduceMul, Int.reduceNeg, reduceCtorEq, Option.bind_some, Option.map_some, List.length_cons, List.length_nil, vcM, List.getElem?_toArray, List.getElem?_cons_zero, List.getElem?_cons_succ, hp5d, hsz', hsz, hrf']
        (refine W_at c12_ok ?_; refine ⟨_, rfl, ?_⟩; simp (disch := first | omega | assumption | rfl | (simp only [vcS] <;> omega) | fail) only [↓ptV_l, ↓vcA, vcB, ↓vcD, vcE, ↓reduceIte, Nat.reduceEqDiff, Nat.reduceAdd, Nat.reduceMul, Nat.reduceLeDiff, Int.reduceLE, Int.reduceLT, Int.reduceEq, Int.reduceToNat, Int.reduceAdd, Int.reduceSub, Int.reduceMul, Int.reduceNeg, reduceCtorEq, Option.bind_some, Option.map_some, List.length_cons, List.length_nil, vcM, List.getElem?_toArray, List.getElem?_cons_zero, List.getElem?_cons_succ, hwi])
        (refine W_at c12_ok ?_; refine ⟨_, rfl, ?_⟩; simp (disch := first | omega | assumption | rfl | (simp only [vcS] <;> omega) | fail) only [↓ptV_l, ↓vcA, vcB, ↓vcD, vcE, ↓reduceIte, Nat.reduceEqDiff, Nat.reduceAdd, Nat.reduceMul, Nat.reduceLeDiff, Int.reduceLE, Int.reduceLT, Int.reduceEq, Int.reduceToNat, Int.reduceAdd, Int.reduceSub, Int.reduceMul, Int.reduceNeg, reduceCtorEq, Option.bind_some, Option.map_some, List.length_cons, List.length_nil, vcM, List.getElem?_toArray, List.getElem?_cons_zero, List.getElem?_cons_succ])
        exact ih (i + 1) _ m' cnt' rc' v' ws' (by omega) hB5 hp3e hp5e
      · (refine W_at c12_ok ?_; refine ⟨_, rfl, ?_⟩; simp (disch := first | omega | assumption | rfl | (simp only [vcS] <;> omega) | fail) only [↓ptV_l, ↓vcA, vcB, ↓vcD, vcE, ↓reduceIte, Nat.reduceEqDiff, Nat.reduceAdd, Nat.reduceMul, Nat.reduceLeDiff, Int.reduceLE, Int.reduceLT, Int.reduceEq, Int.reduceToNat, Int.reduceAdd, Int.reduceSub, Int.reduceMul, Int.reduceNeg, reduceCtorEq, Option.bind_some, Option.map_some, List.length_cons, List.length_nil, vcM, List.getElem?_toArray, List.getElem?_cons_zero, List.getElem?_cons_succ, hin])
        (refine W_at c12_ok ?_; refine ⟨_, rfl, ?_⟩; simp (disch := first | omega | assumption | rfl | (simp only [vcS] <;> omega) | fail) only [↓ptV_l, ↓vcA, vcB, ↓vcD, vcE, ↓reduceIte, Nat.reduceEqDiff, Nat.reduceAdd, Nat.reduceMul, Nat.reduceLeDiff, Int.reduceLE, Int.reduceLT, Int.reduceEq, Int.reduceToNat, Int.reduceAdd, Int.reduceSub, Int.reduceMul, Int.reduceNeg, reduceCtorEq, Option.bind_some, Option.map_some, List.length_cons, List.length_nil, vcM, List.getElem?_toArray, List.getElem?_cons_zero, List.getElem?_cons_succ])
        exact hend i wj m cnt rc v ws _ (by omega) hB hp3 hp5
  exact L 60 0 w3 none _ _ _ _ rfl hB2 hp3f (by rw [hzr]; exact hp5')
end Go.Proofs
