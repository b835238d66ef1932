/- What a disk reads. -/
import Derived.Test.YtfackfekmadjbaaD3
set_option linter.unusedSimpArgs false
set_option linter.unusedVariables false
set_option linter.constructorNameAsVariable false
namespace Go.Proofs
open Go.Vc Go.RowKit
set_option maxRecDepth 10000

/-- A slice of an array of bytes. -/
theorem arr_rd {w : World} {p : Nat} {t : TypeId} {hs : List Int} {n : Nat} (h : w.heap[p]? = some (.cells (bv hs).toArray t (0, 0))) (hn : hs.length = n) (hm : n ≤ 1000) : Rd w (.slice (some ⟨p, 0, none⟩) n n) hs := by
  subst hn
  refine ⟨⟨_, _, rfl, Nat.le_refl _⟩, by have : maxLen = 9223372036854775807 := rfl; omega, ?_⟩
  by_cases h0 : hs.length = 0
  · have : hs = [] := List.eq_nil_of_length_eq_zero h0
    subst this; rfl
  · simp only [rdS, if_neg h0, rdN_heap, h, Nat.mul_one]
    rw [rdO_some _ _ _ _ _ (by simp [bv_len])]
    simp only [Nat.zero_add]
    rw [ext_all _ _ (by simp [bv_len])]
theorem keepsFrom_of {S : Nat → Prop} {B : Nat} {w w' : World} (h : Keep S w w') (hS : ∀ k, S k → ∀ o, w.heap[k]? = some o → o.isCells = true) : KeepsFrom B w w' := by
  refine ⟨h.size, fun k o _ hk ho => ?_⟩
  have hs : ¬ S k := fun hs => by rw [hS k hs o hk] at ho; cases ho
  exact (h.block k (Array.getElem?_eq_some_iff.1 hk).1 hs).trans hk
theorem Keep.below {S : Nat → Prop} {B : Nat} {w w' : World} (h : Keep S w w') (hS : ∀ k, S k → B ≤ k) (hB : B ≤ w.heap.size) : Below B w w' := below_ext (h.mono hS) hB
theorem at_own {B : Nat} {w w' : World} {row : Option Nat} {p : Nat} {c : Array Value} {t : TypeId} {fr : Nat × Nat} (hg : w.grownBy w' row) (hr : ∀ r, row = some r → B ≤ r ∧ ∃ o : Obj, w.heap[r]? = some o ∧ o.isCells = false)
    (h : w.heap[p]? = some (.cells c t fr)) : w'.heap[p]? = some (.cells c t fr) :=
  (keep_grow hg hr).at h fun hn => by obtain ⟨_, o, ho, hc⟩ := hn; rw [h] at ho; cases ho; cases hc
theorem setPs_1 (p : Nat) (v : Value) (e : Env) : setPs [p] [v] e = (p, v) :: e := rfl
theorem setPs_2 (p q : Nat) (v u : Value) (e : Env) : setPs [p, q] [v, u] e = (q, u) :: (p, v) :: e := rfl
theorem DAt.lkp {w : World} {p r : Nat} {qv : Value} {d : DS} (h : DAt w p r qv d) (i : Int) : lkpR (skR [(1, .i .i64)]) false (zvR true [(64, .int .u8 0)]) false w (.map (some r)) (.int .i64 i) = some (.agg (bv (d.safe i)).toArray) := by
  obtain ⟨l, h1, h2⟩ := h.map
  rw [h1.lkp]
  rcases h2 i with h3 | ⟨h3, h4⟩
  · rw [h3]; rfl
  · rw [h3, h4]; rfl
def readS (d : DS) (i : Int) : Sec := d.queue.foldl (fun s x => if x.1 = i then x.2 else s) (d.safe i)
theorem fold_none {i : Int} : ∀ (l : List Wr) (s : Sec), (∀ y ∈ l, y.1 ≠ i) → l.foldl (fun s x => if x.1 = i then x.2 else s) s = s
  | [], s, _ => rfl
  | x :: l, s, h => by rw [List.foldl_cons, if_neg (h x (by simp))]; exact fold_none l s fun y hy => h y (by simp [hy])
theorem read_none {d : DS} {i : Int} (h : ∀ y ∈ d.queue, y.1 ≠ i) : readS d i = d.safe i := fold_none _ _ h
theorem read_last {d : DS} {i : Int} {j : Nat} (hj : j < d.queue.length) (hi : d.queue[j].1 = i) (h : ∀ t (ht : t < d.queue.length), j < t → d.queue[t].1 ≠ i) : readS d i = d.queue[j].2 := by
  have e : d.queue = d.queue.take j ++ d.queue[j] :: d.queue.drop (j + 1) := by rw [← List.drop_eq_getElem_cons hj, List.take_append_drop]
  unfold readS
  conv => lhs; rw [e]
  rw [List.foldl_append, List.foldl_cons, if_pos hi]
  refine fold_none _ _ fun y hy => ?_
  obtain ⟨t, ht, rfl⟩ := List.getElem_of_mem hy
  rw [List.getElem_drop]
  exact h _ _ (by omega)
theorem readS_ok {d : DS} (h : d.Ok) (i : Int) : secOK (readS d i) := by
  have : ∀ (l : List Wr) (s : Sec), (∀ x ∈ l, secOK x.2) → secOK s → secOK (l.foldl (fun s x => if x.1 = i then x.2 else s) s) := by
    intro l
    induction l with
    | nil => intro s _ hs; exact hs
    | cons x l ih =>
      intro s hl hs
      rw [List.foldl_cons]
      refine ih _ (fun y hy => hl y (by simp [hy])) ?_
      split
      · exact hl x (by simp)
      · exact hs
  exact this _ _ (fun x hx => (h.queue x hx).1) (h.safe i)
def readE (d : DS) (i : Int) : Int := if thereB d.n i then (if d.dead then 10 else 0) else 1
def readB (d : DS) (i : Int) : List Int := if readE d i = 0 then readS d i else []
def ReadTo (w w' : World) (d : DS) (i : Int) (u : Value) : Prop := ∃ v, u = .tuple #[v, .int .i64 (readE d i)] ∧ New w w' v (readB d i)
theorem wcell_size {x : Wr} (h : x.2.length = 64) : (wcell x).size = 65 := by simp [wcell, bv_len, h]
theorem wcell_flat (x : Wr) : flat (wcell x) := by
  intro v hv
  simp only [wcell, List.mem_cons] at hv
  rcases hv with rfl | hv
  · rfl
  · exact bv_flat x.2 v hv
theorem wcell_at (x : Wr) : (wcell x)[0]? = some (.int .i64 x.1) := rfl
theorem wcell_data {x : Wr} (h : x.2.length = 64) : (wcell x).extract 1 (1 + 64) = (bv x.2).toArray := by
  apply Array.ext'
  simp only [wcell, Array.toList_extract, List.extract_eq_take_drop, List.drop_succ_cons, List.drop_zero]
  rw [List.take_of_length_le (by simp [bv_len, h])]
set_option maxHeartbeats 3200000 in
theorem read_ok (w : World) (p r : Nat) (qv : Value) (d : DS) (i : Int) (h : DAt w p r qv d) (hd : d.Ok) :
    Calls Try.prog 27 #[.pointer (some ⟨p, 0, none⟩), .int .i64 i] w (Ret fun u w' => ReadTo w w' d i u) := by
  refine calls_of_ct 3 t27_ok (Nat.le_of_ble_eq_true rfl) ?_
  simp only [List.toList_toArray]
  simp only [argE_nil, argE_cons, Nat.reduceAdd, Nat.zero_add]
  simp (disch := first | omega | assumption | rfl | (simp only [vcS] <;> omega) | fail) only [t27, ↓vcC, slc3_s, ↓ptV_l, ↓vcA, vcB, ↓vcD, vcE, ↓reduceIte, Nat.reduceEqDiff, Nat.reduceAdd, Nat.reduceMul, Nat.reduceLeDiff, Int.reduceLE, Int.reduceLT, Int.reduceEq, Int.reduceToNat, Int.reduceAdd, Int.reduceSub, Int.reduceMul, Int.reduceNeg, reduceCtorEq, Option.bind_some, Option.map_some, List.length_cons, List.length_nil, vcM, List.getElem?_toArray, List.getElem?_cons_zero, List.getElem?_cons_succ]
  have hi : (w.alloc (.cells #[.int .i64 i] 3)).heap[w.heap.size]? = some (.cells #[.int .i64 i] 3 (0, 0)) := heap_new _ _ _ rfl
  have hE : Ext w (w.alloc (.cells #[.int .i64 i] 3)) := (Keep.refl _ w).alloc _
  have hps : p ≠ w.heap.size := by have := h.lt (.inl rfl); omega
  generalize hp3 : w.heap.size = p3 at hi hps ⊢
  generalize World.alloc _ _ = w1 at hi hE ⊢
  have hD := h.ext hE
  obtain ⟨f, a, h1, _⟩ := hD.obj
  (refine nx_at ?_; simp (disch := first | omega | assumption | rfl | (simp only [vcS] <;> omega) | fail) only [↓vcC, slc3_s, ↓ptV_l, ↓vcA, vcB, ↓vcD, vcE, ↓reduceIte, Nat.reduceEqDiff, Nat.reduceAdd, Nat.reduceMul, Nat.reduceLeDiff, Int.reduceLE, Int.reduceLT, Int.reduceEq, Int.reduceToNat, Int.reduceAdd, Int.reduceSub, Int.reduceMul, Int.reduceNeg, reduceCtorEq, Option.bind_some, Option.map_some, List.length_cons, List.length_nil, vcM, List.getElem?_toArray, List.getElem?_cons_zero, List.getElem?_cons_succ, hi])
  refine callV_ret (there_ok w1 p r qv d i hD) ?_
  rintro _ wq ⟨rfl, hw⟩
  obtain rfl : w1 = wq := hw.symm
  first | (simp (disch := first | omega | assumption | rfl | (simp only [vcS] <;> omega) | fail) only [↓vcC, slc3_s, ↓ptV_l, ↓vcA, vcB, ↓vcD, vcE, ↓reduceIte, Nat.reduceEqDiff, Nat.reduceAdd, Nat.reduceMul, Nat.reduceLeDiff, Int.reduceLE, Int.reduceLT, Int.reduceEq, Int.reduceToNat, Int.reduceAdd, Int.reduceSub, Int.reduceMul, Int.reduceNeg, reduceCtorEq, Option.bind_some, Option.map_some, List.length_cons, List.length_nil, vcM, List.getElem?_toArray, List.getElem?_cons_zero, List.getElem?_cons_succ]) | skip
  cases ht : thereB d.n i with
  | false =>
    have he : readE d i = 1 := by rw [readE, ht]; rfl
    (refine nx_at ?_; simp (disch := first | omega | assumption | rfl | (simp only [vcS] <;> omega) | fail) only [↓vcC, slc3_s, ↓ptV_l, ↓vcA, vcB, ↓vcD, vcE, ↓reduceIte, Nat.reduceEqDiff, Nat.reduceAdd, Nat.reduceMul, Nat.reduceLeDiff, Int.reduceLE, Int.reduceLT, Int.reduceEq, Int.reduceToNat, Int.reduceAdd, Int.reduceSub, Int.reduceMul, Int.reduceNeg, reduceCtorEq, Option.bind_some, Option.map_some, List.length_cons, List.length_nil, vcM, List.getElem?_toArray, List.getElem?_cons_zero, List.getElem?_cons_succ])
    (refine nx_at ?_; simp (disch := first | omega | assumption | rfl | (simp only [vcS] <;> omega) | fail) only [↓vcC, slc3_s, ↓ptV_l, ↓vcA, vcB, ↓vcD, vcE, ↓reduceIte, Nat.reduceEqDiff, Nat.reduceAdd, Nat.reduceMul, Nat.reduceLeDiff, Int.reduceLE, Int.reduceLT, Int.reduceEq, Int.reduceToNat, Int.reduceAdd, Int.reduceSub, Int.reduceMul, Int.reduceNeg, reduceCtorEq, Option.bind_some, Option.map_some, List.length_cons, List.length_nil, vcM, List.getElem?_toArray, List.getElem?_cons_zero, List.getElem?_cons_succ, Ret_returned])
    exact ⟨_, by rw [he], by rw [readB, if_neg (by omega)]; exact (New.nil w1).pre hE⟩
  | true =>
  have hpr := hps
  (refine nx_at ?_; simp (disch := first | omega | assumption | rfl | (simp only [vcS] <;> omega) | fail) only [↓vcC, slc3_s, ↓ptV_l, ↓vcA, vcB, ↓vcD, vcE, ↓reduceIte, Nat.reduceEqDiff, Nat.reduceAdd, Nat.reduceMul, Nat.reduceLeDiff, Int.reduceLE, Int.reduceLT, Int.reduceEq, Int.reduceToNat, Int.reduceAdd, Int.reduceSub, Int.reduceMul, Int.reduceNeg, reduceCtorEq, Option.bind_some, Option.map_some, List.length_cons, List.length_nil, vcM, List.getElem?_toArray, List.getElem?_cons_zero, List.getElem?_cons_succ])
  cases hdd : d.dead with
  | true =>
    have he : readE d i = 10 := by rw [readE, ht, hdd]; rfl
    rw [hdd] at h1
    (refine nx_at ?_; simp (disch := first | omega | assumption | rfl | (simp only [vcS] <;> omega) | fail) only [↓vcC, slc3_s, ↓ptV_l, ↓vcA, vcB, ↓vcD, vcE, ↓reduceIte, Nat.reduceEqDiff, Nat.reduceAdd, Nat.reduceMul, Nat.reduceLeDiff, Int.reduceLE, Int.reduceLT, Int.reduceEq, Int.reduceToNat, Int.reduceAdd, Int.reduceSub, Int.reduceMul, Int.reduceNeg, reduceCtorEq, Option.bind_some, Option.map_some, List.length_cons, List.length_nil, vcM, List.getElem?_toArray, List.getElem?_cons_zero, List.getElem?_cons_succ, h1])
    (refine nx_at ?_; simp (disch := first | omega | assumption | rfl | (simp only [vcS] <;> omega) | fail) only [↓vcC, slc3_s, ↓ptV_l, ↓vcA, vcB, ↓vcD, vcE, ↓reduceIte, Nat.reduceEqDiff, Nat.reduceAdd, Nat.reduceMul, Nat.reduceLeDiff, Int.reduceLE, Int.reduceLT, Int.reduceEq, Int.reduceToNat, Int.reduceAdd, Int.reduceSub, Int.reduceMul, Int.reduceNeg, reduceCtorEq, Option.bind_some, Option.map_some, List.length_cons, List.length_nil, vcM, List.getElem?_toArray, List.getElem?_cons_zero, List.getElem?_cons_succ])
    (refine nx_at ?_; simp (disch := first | omega | assumption | rfl | (simp only [vcS] <;> omega) | fail) only [↓vcC, slc3_s, ↓ptV_l, ↓vcA, vcB, ↓vcD, vcE, ↓reduceIte, Nat.reduceEqDiff, Nat.reduceAdd, Nat.reduceMul, Nat.reduceLeDiff, Int.reduceLE, Int.reduceLT, Int.reduceEq, Int.reduceToNat, Int.reduceAdd, Int.reduceSub, Int.reduceMul, Int.reduceNeg, reduceCtorEq, Option.bind_some, Option.map_some, List.length_cons, List.length_nil, vcM, List.getElem?_toArray, List.getElem?_cons_zero, List.getElem?_cons_succ, Ret_returned])
    exact ⟨_, by rw [he], by rw [readB, if_neg (by omega)]; exact (New.nil w1).pre hE⟩
  | false =>
  have he : readE d i = 0 := by rw [readE, ht, hdd]; rfl
  have h1' := h1
  rw [hdd] at h1'
  have hs64 := hd.safe i
  (refine nx_at ?_; simp (disch := first | omega | assumption | rfl | (simp only [vcS] <;> omega) | fail) only [↓vcC, slc3_s, ↓ptV_l, ↓vcA, vcB, ↓vcD, vcE, ↓reduceIte, Nat.reduceEqDiff, Nat.reduceAdd, Nat.reduceMul, Nat.reduceLeDiff, Int.reduceLE, Int.reduceLT, Int.reduceEq, Int.reduceToNat, Int.reduceAdd, Int.reduceSub, Int.reduceMul, Int.reduceNeg, reduceCtorEq, Option.bind_some, Option.map_some, List.length_cons, List.length_nil, vcM, List.getElem?_toArray, List.getElem?_cons_zero, List.getElem?_cons_succ, h1'])
  (refine nx_at ?_; simp (disch := first | omega | assumption | rfl | (simp only [vcS] <;> omega) | fail) only [↓vcC, slc3_s, ↓ptV_l, ↓vcA, vcB, ↓vcD, vcE, ↓reduceIte, Nat.reduceEqDiff, Nat.reduceAdd, Nat.reduceMul, Nat.reduceLeDiff, Int.reduceLE, Int.reduceLT, Int.reduceEq, Int.reduceToNat, Int.reduceAdd, Int.reduceSub, Int.reduceMul, Int.reduceNeg, reduceCtorEq, Option.bind_some, Option.map_some, List.length_cons, List.length_nil, vcM, List.getElem?_toArray, List.getElem?_cons_zero, List.getElem?_cons_succ])
  have hL : ∀ wz, Ext w1 wz → lkpR (skR [(1, .i .i64)]) false (zvR true [(64, .int .u8 0)]) false wz (.map (some r)) (.int .i64 i) = some (.agg (bv (d.safe i)).toArray) := fun wz hz => (hD.ext hz).lkp i
  have hz1 : (zc [(64, Value.int .u8 0)]).size = 64 := rfl
  have hEd : Ext w1 w1.drew := (Keep.refl _ w1).drew
  have hA : ∀ o, Ext w1 (w1.drew.alloc o) := fun o => hEd.alloc o
  have hiA : ∀ o, (w1.drew.alloc o).heap[p3]? = some (.cells #[.int .i64 i] 3 (0, 0)) := fun o => (hA o).at hi (fun h => h)
  have h1A : ∀ o, (w1.drew.alloc o).heap[p]? = some (.cells #[.int .i64 (d.n : Nat), .map (some r), qv, .int .i64 f, .bool a, .bool d.dead] 58 (0, 0)) := fun o => (hA o).at h1 (fun h => h)
  (refine nx_at ?_; simp (disch := first | omega | assumption | rfl | (simp only [vcS] <;> omega) | (repeat' first | exact Keep.refl _ _ | assumption | refine Keep.drew ?_ | refine Keep.alloc ?_ _ | refine Keep.putN ?_ _ ?_ | refine Keep.setCell ?_ _ ?_ | refine Keep.setO ?_ _ ?_ | exact fun _ => Or.inl rfl | exact fun _ => Or.inr rfl | exact fun _ => rfl | (intro hh; exfalso; ((try simp only [vcS] at hh) <;> omega)))) only [↓vcC, slc3_s, ↓ptV_l, ↓vcA, vcB, ↓vcD, vcE, ↓reduceIte, Nat.reduceEqDiff, Nat.reduceAdd, Nat.reduceMul, Nat.reduceLeDiff, Int.reduceLE, Int.reduceLT, Int.reduceEq, Int.reduceToNat, Int.reduceAdd, Int.reduceSub, Int.reduceMul, Int.reduceNeg, reduceCtorEq, Option.bind_some, Option.map_some, List.length_cons, List.length_nil, vcM, List.getElem?_toArray, List.getElem?_cons_zero, List.getElem?_cons_succ, h1, hi, hL, hA, hiA, h1A])
  refine ⟨by simp [bv_len, hs64.1], bv_flat _, ?_⟩
  have h6 : ((w1.drew.alloc (.cells (zc [(64, .int .u8 0)]) 74)).putN w1.heap.size 0 (bv (d.safe i)).toArray).heap[w1.heap.size]? = some (.cells (bv (d.safe i)).toArray 74 (0, 0)) := by
    have e0 : (w1.drew.alloc (.cells (zc [(64, .int .u8 0)]) 74)).heap[w1.heap.size]? = some (.cells (zc [(64, .int .u8 0)]) 74 (0, 0)) := heap_new _ _ _ rfl
    rw [heap_putN_eq e0, splice_all (by rw [hz1]; simp [bv_len, hs64.1])]
  have hE2 : Ext w1 ((w1.drew.alloc (.cells (zc [(64, .int .u8 0)]) 74)).putN w1.heap.size 0 (bv (d.safe i)).toArray) := (hA _).putN _ (by intro hh; exfalso; omega)
  have hp36 : p3 < w1.heap.size := (Array.getElem?_eq_some_iff.1 hi).1
  clear hA hiA h1A hL hEd
  generalize World.putN _ _ _ _ = w2 at h6 hE2 ⊢
  generalize w1.heap.size = p6 at h6 hp36 hE2 ⊢
  have hi2 := hE2.at hi (fun h => h)
  have h12 := hE2.at h1 (fun h => h)
  have hD2 := hD.ext hE2
  have hE02 := hE.ext hE2
  obtain ⟨qq, qc, hqe, hqc⟩ := hD2.queue.is
  have hqcell : qv.cells = #[qv] := by rw [hqe]; rfl
  (refine nx_at ?_; simp (disch := first | omega | assumption | rfl | (simp only [vcS] <;> omega) | fail) only [↓vcC, slc3_s, ↓ptV_l, ↓vcA, vcB, ↓vcD, vcE, ↓reduceIte, Nat.reduceEqDiff, Nat.reduceAdd, Nat.reduceMul, Nat.reduceLeDiff, Int.reduceLE, Int.reduceLT, Int.reduceEq, Int.reduceToNat, Int.reduceAdd, Int.reduceSub, Int.reduceMul, Int.reduceNeg, reduceCtorEq, Option.bind_some, Option.map_some, List.length_cons, List.length_nil, vcM, List.getElem?_toArray, List.getElem?_cons_zero, List.getElem?_cons_succ, h12])
  refine callV_ret (back_ok w2 qv hqcell) ?_
  rintro _ w3 ⟨b1, T1, rfl, hm1, hE3, hl1, hl3⟩
  first | (simp (disch := first | omega | assumption | rfl | (simp only [vcS] <;> omega) | fail) only [↓vcC, slc3_s, ↓ptV_l, ↓vcA, vcB, ↓vcD, vcE, ↓reduceIte, Nat.reduceEqDiff, Nat.reduceAdd, Nat.reduceMul, Nat.reduceLeDiff, Int.reduceLE, Int.reduceLT, Int.reduceEq, Int.reduceToNat, Int.reduceAdd, Int.reduceSub, Int.reduceMul, Int.reduceNeg, reduceCtorEq, Option.bind_some, Option.map_some, List.length_cons, List.length_nil, vcM, List.getElem?_toArray, List.getElem?_cons_zero, List.getElem?_cons_succ]) | skip
  (refine nx_at ?_; simp (disch := first | omega | assumption | rfl | (simp only [vcS] <;> omega) | fail) only [↓vcC, slc3_s, ↓ptV_l, ↓vcA, vcB, ↓vcD, vcE, ↓reduceIte, Nat.reduceEqDiff, Nat.reduceAdd, Nat.reduceMul, Nat.reduceLeDiff, Int.reduceLE, Int.reduceLT, Int.reduceEq, Int.reduceToNat, Int.reduceAdd, Int.reduceSub, Int.reduceMul, Int.reduceNeg, reduceCtorEq, Option.bind_some, Option.map_some, List.length_cons, List.length_nil, vcM, List.getElem?_toArray, List.getElem?_cons_zero, List.getElem?_cons_succ])
  have hE03 := hE02.ext hE3
  have hi3 := hE3.at hi2 (fun h => h)
  have h63 := hE3.at h6 (fun h => h)
  have hD3 := hD2.ext hE3
  have hp6l : p6 < w2.heap.size := (Array.getElem?_eq_some_iff.1 h6).1
  have hql : ∀ g, blk qv g → g < w.heap.size := fun g hg => h.lt (.inr (.inr hg))
  have hqn := qlen d
  have hst := back_stops w3 b1 qv (d.queue.map wcell) T1 hm1 hD3.queue (by rw [hqn]; exact hd.len)
  have hget : ∀ (t : Nat) (ht : t < (d.queue.map wcell).length), (d.queue.map wcell)[t] = wcell (d.queue[t]'(by rw [← hqn]; exact ht)) := fun t ht => by simp
  have hqt : ∀ (t : Fin (d.queue.map wcell).length), t.val < d.queue.length := fun t => by rw [← hqn]; exact t.isLt
  have hbs : ∀ b ∈ b1 :: qv.ownBlock.toList, b < w3.heap.size := by
    intro b hb
    rcases List.mem_cons.1 hb with rfl | hb
    · exact hl1
    · have hbq : blk qv b := by
        unfold Go.Proofs.blk
        cases ho : qv.ownBlock with
        | none => rw [ho] at hb; cases hb
        | some g => rw [ho] at hb; simp at hb; rw [hb]
      exact Nat.lt_of_lt_of_le (hql b hbq) hE03.size
  refine rg_of (b1 :: qv.ownBlock.toList) (by decide) _ _ _ _ _ _
    (fun (pre : List (Fin (d.queue.map wcell).length)) W => Ext w W ∧ W.heap[p3]? = some (.cells #[.int .i64 i] 3 (0, 0)) ∧ W.heap[p6]? = some (.cells (bv (d.safe i)).toArray 74 (0, 0)) ∧ (∀ t ∈ pre, (d.queue[t.val]'(hqt t)).1 ≠ i) ∧ w3.heap.size ≤ W.heap.size)
    (fun key pre W => key = some 0 ∧ Ext w W ∧ ∃ pre' t, pre = pre' ++ [t] ∧ (d.queue[t.val]'(hqt t)).1 = i ∧ W.heap[p6]? = some (.cells (bv (d.queue[t.val]'(hqt t)).2).toArray 74 (0, 0)) ∧ ∀ t ∈ pre', (d.queue[t.val]'(hqt t)).1 ≠ i)
    (fun t e1 W => Vc.look e1 3 = some (.pointer (some ⟨p3, 0, none⟩)) ∧ Vc.look e1 6 = some (.pointer (some ⟨p6, 0, none⟩)) ∧ ∃ b8, Vc.look e1 8 = some (.pointer (some ⟨b8, 0, none⟩)) ∧ W.heap[b8]? = some (.cells (wcell (d.queue[t.val]'(hqt t))) 77 (0, 0)))
    rfl rfl hbs hst (fun _ => rfl) ?_ ?_ ⟨hE03, hi3, h63, fun t ht => (by cases ht), Nat.le_refl _⟩ ?_ ?_ ?_ ?_ ?_
  · rintro pre W W' row ⟨g1, g2, g3, g4, gs⟩ hg hr
    exact ⟨g1.trans (keep_grow hg hr) fun i hi hk => by have := hk.1; have := hE03.size; omega, at_own hg hr g2, at_own hg hr g3, g4, Nat.le_trans gs hg.size⟩
  · rintro key pre W W' row ⟨g0, g1, pre', t, g2, g3, g4, g5⟩ hg hr
    exact ⟨g0, g1.trans (keep_grow hg hr) fun i hi hk => by have := hk.1; have := hE03.size; omega, pre', t, g2, g3, at_own hg hr g4, g5⟩
  · rintro t e1 _ W W' row ⟨l3, l6, b8, l8, h8⟩ hg hr
    exact ⟨l3, l6, b8, l8, at_own hg hr h8⟩
  · rintro l pre t W hI
    show ctV _ _ _ _ _ _ _ _ ((29, .agg _) :: (28, .int .i64 _) :: _) _
    rw [hget t.val t.isLt]
    have hx := hd.queue _ (List.getElem_mem (hqt t))
    have hw65 := wcell_size hx.1.1
    have hz65 : (zc [(1, Value.int .i64 0), (64, Value.int .u8 0)]).size = 65 := rfl
    have hfw := wcell_flat (d.queue[t.val]'(hqt t))
    simp (disch := first | omega | assumption | rfl | (simp only [vcS] <;> omega) | fail) only [↓vcC, slc3_s, ↓ptV_l, ↓vcA, vcB, ↓vcD, vcE, ↓reduceIte, Nat.reduceEqDiff, Nat.reduceAdd, Nat.reduceMul, Nat.reduceLeDiff, Int.reduceLE, Int.reduceLT, Int.reduceEq, Int.reduceToNat, Int.reduceAdd, Int.reduceSub, Int.reduceMul, Int.reduceNeg, reduceCtorEq, Option.bind_some, Option.map_some, List.length_cons, List.length_nil, vcM, List.getElem?_toArray, List.getElem?_cons_zero, List.getElem?_cons_succ, hw65]
    obtain ⟨g1, g2, g3, g4, gs⟩ := hI
    have hX : Ext W ((W.alloc (.cells (zc [(1, .int .i64 0), (64, .int .u8 0)]) 77)).putN W.heap.size 0 (wcell (d.queue[t.val]'(hqt t)))) := ((Keep.refl _ W).alloc _).putN _ (by intro hh; exfalso; omega)
    have h8 : ((W.alloc (.cells (zc [(1, .int .i64 0), (64, .int .u8 0)]) 77)).putN W.heap.size 0 (wcell (d.queue[t.val]'(hqt t)))).heap[W.heap.size]? = some (.cells (wcell (d.queue[t.val]'(hqt t))) 77 (0, 0)) := by
      rw [heap_putN_eq (heap_new _ _ _ rfl), splice_all (by rw [hz65, hw65])]
    refine ⟨hfw, keepsFrom_of hX (fun k h => h.elim), fun b hb => hX.block b ?_ (fun h => h), ⟨g1.ext hX, g2, g3, g4, by omega⟩, _, rfl, h8⟩
    exact Nat.lt_of_lt_of_le (hbs b hb) gs
  · rintro l pre t e1 W hl hr ⟨g1, g2, g3, g4, gs⟩ ⟨l3, l6, b8, l8, h8⟩ hlt
    have hx := hd.queue _ (List.getElem_mem (hqt t))
    have hw65 := wcell_size hx.1.1
    have ha0 := wcell_at (d.queue[t.val]'(hqt t))
    have hda := wcell_data hx.1.1
    have hsz : (bv (d.queue[t.val]'(hqt t)).2).toArray.size = 64 := by simp [bv_len, hx.1.1]
    have hfl := bv_flat (d.queue[t.val]'(hqt t)).2
    by_cases hat : (d.queue[t.val]'(hqt t)).1 = i
    · simp (disch := first | omega | assumption | rfl | (simp only [vcS] <;> omega) | fail) only [↓vcC, slc3_s, ↓ptV_l, ↓vcA, vcB, ↓vcD, vcE, ↓reduceIte, Nat.reduceEqDiff, Nat.reduceAdd, Nat.reduceMul, Nat.reduceLeDiff, Int.reduceLE, Int.reduceLT, Int.reduceEq, Int.reduceToNat, Int.reduceAdd, Int.reduceSub, Int.reduceMul, Int.reduceNeg, reduceCtorEq, Option.bind_some, Option.map_some, List.length_cons, List.length_nil, vcM, List.getElem?_toArray, List.getElem?_cons_zero, List.getElem?_cons_succ, l3, l6, l8, g2, h8, ha0, hat]
      have hss : (bv (d.safe i)).toArray.size = 64 := by simp [bv_len, (hd.safe i).1]
      (refine nx_at ?_; simp (disch := first | omega | assumption | rfl | (simp only [vcS] <;> omega) | fail) only [↓vcC, slc3_s, ↓ptV_l, ↓vcA, vcB, ↓vcD, vcE, ↓reduceIte, Nat.reduceEqDiff, Nat.reduceAdd, Nat.reduceMul, Nat.reduceLeDiff, Int.reduceLE, Int.reduceLT, Int.reduceEq, Int.reduceToNat, Int.reduceAdd, Int.reduceSub, Int.reduceMul, Int.reduceNeg, reduceCtorEq, Option.bind_some, Option.map_some, List.length_cons, List.length_nil, vcM, List.getElem?_toArray, List.getElem?_cons_zero, List.getElem?_cons_succ, l3, l6, l8, h8, hda, hsz, g3])
      refine ⟨hfl, by omega, ?_⟩
      (refine nx_at ?_; simp (disch := first | omega | assumption | rfl | (simp only [vcS] <;> omega) | fail) only [↓vcC, slc3_s, ↓ptV_l, ↓vcA, vcB, ↓vcD, vcE, ↓reduceIte, Nat.reduceEqDiff, Nat.reduceAdd, Nat.reduceMul, Nat.reduceLeDiff, Int.reduceLE, Int.reduceLT, Int.reduceEq, Int.reduceToNat, Int.reduceAdd, Int.reduceSub, Int.reduceMul, Int.reduceNeg, reduceCtorEq, Option.bind_some, Option.map_some, List.length_cons, List.length_nil, vcM, List.getElem?_toArray, List.getElem?_cons_zero, List.getElem?_cons_succ])
      have hkp : Keep (fun k => k = p6) W (W.putN p6 0 (bv (d.queue[t.val]'(hqt t)).2).toArray) := (Keep.refl _ W).putN _ fun _ => rfl
      refine ⟨keepsFrom_of hkp fun k hk o ho => ?_, g1.trans hkp fun k hk e => ?_, pre, t, rfl, hat, ?_, g4⟩
      · subst hk; rw [g3] at ho; cases ho; rfl
      · omega
      · rw [heap_putN_eq g3, splice_all (by rw [hsz, hss])]
    · simp (disch := first | omega | assumption | rfl | (simp only [vcS] <;> omega) | fail) only [↓vcC, slc3_s, ↓ptV_l, ↓vcA, vcB, ↓vcD, vcE, ↓reduceIte, Nat.reduceEqDiff, Nat.reduceAdd, Nat.reduceMul, Nat.reduceLeDiff, Int.reduceLE, Int.reduceLT, Int.reduceEq, Int.reduceToNat, Int.reduceAdd, Int.reduceSub, Int.reduceMul, Int.reduceNeg, reduceCtorEq, Option.bind_some, Option.map_some, List.length_cons, List.length_nil, vcM, List.getElem?_toArray, List.getElem?_cons_zero, List.getElem?_cons_succ, l3, l6, l8, g2, h8, ha0, hat]
      (refine nx_at ?_; simp (disch := first | omega | assumption | rfl | (simp only [vcS] <;> omega) | fail) only [↓vcC, slc3_s, ↓ptV_l, ↓vcA, vcB, ↓vcD, vcE, ↓reduceIte, Nat.reduceEqDiff, Nat.reduceAdd, Nat.reduceMul, Nat.reduceLeDiff, Int.reduceLE, Int.reduceLT, Int.reduceEq, Int.reduceToNat, Int.reduceAdd, Int.reduceSub, Int.reduceMul, Int.reduceNeg, reduceCtorEq, Option.bind_some, Option.map_some, List.length_cons, List.length_nil, vcM, List.getElem?_toArray, List.getElem?_cons_zero, List.getElem?_cons_succ])
      refine ⟨KeepsFrom.refl _ _, fun _ _ => rfl, g1, g2, g3, fun t' ht' => ?_, gs⟩
      rcases List.mem_append.1 ht' with ht' | ht'
      · exact g4 t' ht'
      · obtain rfl : t' = t := by simpa using ht'
        exact hat
  · rintro D xs W hDD rfl ⟨g1, g2, g3, g4, gs⟩ hDK
    have hrs : readS d i = d.safe i := read_none fun y hy => by
      obtain ⟨t, ht, rfl⟩ := List.getElem_of_mem hy
      exact g4 ⟨t, by rw [hqn]; exact ht⟩ (by simp)
    rw [← hrs] at g3
    have hsl := (readS_ok hd i).1
    (refine nx_at ?_; simp (disch := first | omega | assumption | rfl | (simp only [vcS] <;> omega) | fail) only [↓vcC, slc3_s, ↓ptV_l, ↓vcA, vcB, ↓vcD, vcE, ↓reduceIte, Nat.reduceEqDiff, Nat.reduceAdd, Nat.reduceMul, Nat.reduceLeDiff, Int.reduceLE, Int.reduceLT, Int.reduceEq, Int.reduceToNat, Int.reduceAdd, Int.reduceSub, Int.reduceMul, Int.reduceNeg, reduceCtorEq, Option.bind_some, Option.map_some, List.length_cons, List.length_nil, vcM, List.getElem?_toArray, List.getElem?_cons_zero, List.getElem?_cons_succ, advA_0])
    refine callV_ret (clone_ok W _ (readS d i) (arr_rd g3 hsl (by decide)) (by omega)) ?_
    rintro v w9 ⟨o1, o2, o3⟩
    first | (simp (disch := first | omega | assumption | rfl | (simp only [vcS] <;> omega) | fail) only [↓vcC, slc3_s, ↓ptV_l, ↓vcA, vcB, ↓vcD, vcE, ↓reduceIte, Nat.reduceEqDiff, Nat.reduceAdd, Nat.reduceMul, Nat.reduceLeDiff, Int.reduceLE, Int.reduceLT, Int.reduceEq, Int.reduceToNat, Int.reduceAdd, Int.reduceSub, Int.reduceMul, Int.reduceNeg, reduceCtorEq, Option.bind_some, Option.map_some, List.length_cons, List.length_nil, vcM, List.getElem?_toArray, List.getElem?_cons_zero, List.getElem?_cons_succ]) | skip
    (refine nx_at ?_; simp (disch := first | omega | assumption | rfl | (simp only [vcS] <;> omega) | fail) only [↓vcC, slc3_s, ↓ptV_l, ↓vcA, vcB, ↓vcD, vcE, ↓reduceIte, Nat.reduceEqDiff, Nat.reduceAdd, Nat.reduceMul, Nat.reduceLeDiff, Int.reduceLE, Int.reduceLT, Int.reduceEq, Int.reduceToNat, Int.reduceAdd, Int.reduceSub, Int.reduceMul, Int.reduceNeg, reduceCtorEq, Option.bind_some, Option.map_some, List.length_cons, List.length_nil, vcM, List.getElem?_toArray, List.getElem?_cons_zero, List.getElem?_cons_succ])
    refine lvV_cons (o2.at hDK (fun h => h)) ?_
    simp (disch := first | omega | assumption | rfl | (simp only [vcS] <;> omega) | fail) only [↓vcC, slc3_s, ↓ptV_l, ↓vcA, vcB, ↓vcD, vcE, ↓reduceIte, Nat.reduceEqDiff, Nat.reduceAdd, Nat.reduceMul, Nat.reduceLeDiff, Int.reduceLE, Int.reduceLT, Int.reduceEq, Int.reduceToNat, Int.reduceAdd, Int.reduceSub, Int.reduceMul, Int.reduceNeg, reduceCtorEq, Option.bind_some, Option.map_some, List.length_cons, List.length_nil, vcM, List.getElem?_toArray, List.getElem?_cons_zero, List.getElem?_cons_succ, Ret_returned]
    have hkD : Keep (fun k => k = D) w9 (w9.putObj D (.deferred none)) := (Keep.refl _ w9).grown (grownBy_putObj' w9 D _) (fun k _ h => by cases h; rfl)
    have hDl := (Array.getElem?_eq_some_iff.1 hDK).1
    refine ⟨v, by rw [he], ?_⟩
    rw [readB, if_pos he]
    exact ⟨o1.keep hkD fun g hg e => by have := o3 g hg; omega, (g1.ext o2).trans hkD fun k hk e => by have := hE03.size; omega, fun g hg => Nat.le_trans g1.size (o3 g hg)⟩
  · rintro D key pre W hDD ⟨j, hj⟩ ⟨rfl, g1, pre', t, g2, g3, g4, g5⟩ hDK
    have hjk : ∃ j', j' ≤ (d.queue.map wcell).length ∧ pre = bkL (d.queue.map wcell).length j' := by
      by_cases hjl : j ≤ (d.queue.map wcell).length
      · exact ⟨j, hjl, hj⟩
      · refine ⟨_, Nat.le_refl _, ?_⟩
        rw [hj]; unfold bkL
        rw [List.take_of_length_le (by simp; simp at hjl; omega), List.take_of_length_le (by simp)]
    obtain ⟨j', hj'l, hj'⟩ := hjk
    have hts : readS d i = (d.queue[t.val]'(hqt t)).2 := by
      cases j' with
      | zero =>
        exfalso
        have : pre = [] := by rw [hj']; rfl
        rw [this] at g2
        have := congrArg List.length g2
        simp at this
      | succ j'' =>
        rw [hj', bkL_succ hj'l] at g2
        obtain ⟨e1, e2⟩ := List.append_inj' g2 rfl
        have e3 : t.val = (d.queue.map wcell).length - 1 - j'' := by
          have := List.cons.inj e2
          rw [← this.1]
        refine read_last (hqt t) g3 fun u hu hlt => ?_
        have hu' : u < (d.queue.map wcell).length := by rw [hqn]; exact hu
        refine g5 ⟨u, hu'⟩ ?_
        rw [← e1]
        refine bkL_mem ?_
        show _ ≤ u + j''
        omega
    have g3' := g4
    rw [← hts] at g3'
    clear g3 g4
    have g3 := g3'
    simp (disch := first | omega | assumption | rfl | (simp only [vcS] <;> omega) | fail) only [↓vcC, slc3_s, ↓ptV_l, ↓vcA, vcB, ↓vcD, vcE, ↓reduceIte, Nat.reduceEqDiff, Nat.reduceAdd, Nat.reduceMul, Nat.reduceLeDiff, Int.reduceLE, Int.reduceLT, Int.reduceEq, Int.reduceToNat, Int.reduceAdd, Int.reduceSub, Int.reduceMul, Int.reduceNeg, reduceCtorEq, Option.bind_some, Option.map_some, List.length_cons, List.length_nil, vcM, List.getElem?_toArray, List.getElem?_cons_zero, List.getElem?_cons_succ]
    have hsl := (readS_ok hd i).1
    (refine nx_at ?_; simp (disch := first | omega | assumption | rfl | (simp only [vcS] <;> omega) | fail) only [↓vcC, slc3_s, ↓ptV_l, ↓vcA, vcB, ↓vcD, vcE, ↓reduceIte, Nat.reduceEqDiff, Nat.reduceAdd, Nat.reduceMul, Nat.reduceLeDiff, Int.reduceLE, Int.reduceLT, Int.reduceEq, Int.reduceToNat, Int.reduceAdd, Int.reduceSub, Int.reduceMul, Int.reduceNeg, reduceCtorEq, Option.bind_some, Option.map_some, List.length_cons, List.length_nil, vcM, List.getElem?_toArray, List.getElem?_cons_zero, List.getElem?_cons_succ, advA_0])
    refine callV_ret (clone_ok W _ (readS d i) (arr_rd g3 hsl (by decide)) (by omega)) ?_
    rintro v w9 ⟨o1, o2, o3⟩
    first | (simp (disch := first | omega | assumption | rfl | (simp only [vcS] <;> omega) | fail) only [↓vcC, slc3_s, ↓ptV_l, ↓vcA, vcB, ↓vcD, vcE, ↓reduceIte, Nat.reduceEqDiff, Nat.reduceAdd, Nat.reduceMul, Nat.reduceLeDiff, Int.reduceLE, Int.reduceLT, Int.reduceEq, Int.reduceToNat, Int.reduceAdd, Int.reduceSub, Int.reduceMul, Int.reduceNeg, reduceCtorEq, Option.bind_some, Option.map_some, List.length_cons, List.length_nil, vcM, List.getElem?_toArray, List.getElem?_cons_zero, List.getElem?_cons_succ]) | skip
    (refine nx_at ?_; simp (disch := first | omega | assumption | rfl | (simp only [vcS] <;> omega) | fail) only [↓vcC, slc3_s, ↓ptV_l, ↓vcA, vcB, ↓vcD, vcE, ↓reduceIte, Nat.reduceEqDiff, Nat.reduceAdd, Nat.reduceMul, Nat.reduceLeDiff, Int.reduceLE, Int.reduceLT, Int.reduceEq, Int.reduceToNat, Int.reduceAdd, Int.reduceSub, Int.reduceMul, Int.reduceNeg, reduceCtorEq, Option.bind_some, Option.map_some, List.length_cons, List.length_nil, vcM, List.getElem?_toArray, List.getElem?_cons_zero, List.getElem?_cons_succ])
    refine lvV_cons (o2.at hDK (fun h => h)) ?_
    simp (disch := first | omega | assumption | rfl | (simp only [vcS] <;> omega) | fail) only [↓vcC, slc3_s, ↓ptV_l, ↓vcA, vcB, ↓vcD, vcE, ↓reduceIte, Nat.reduceEqDiff, Nat.reduceAdd, Nat.reduceMul, Nat.reduceLeDiff, Int.reduceLE, Int.reduceLT, Int.reduceEq, Int.reduceToNat, Int.reduceAdd, Int.reduceSub, Int.reduceMul, Int.reduceNeg, reduceCtorEq, Option.bind_some, Option.map_some, List.length_cons, List.length_nil, vcM, List.getElem?_toArray, List.getElem?_cons_zero, List.getElem?_cons_succ, Ret_returned]
    have hkD : Keep (fun k => k = D) w9 (w9.putObj D (.deferred none)) := (Keep.refl _ w9).grown (grownBy_putObj' w9 D _) (fun k _ h => by cases h; rfl)
    have hDl := (Array.getElem?_eq_some_iff.1 hDK).1
    refine ⟨v, by rw [he], ?_⟩
    rw [readB, if_pos he]
    exact ⟨o1.keep hkD fun g hg e => by have := o3 g hg; omega, (g1.ext o2).trans hkD fun k hk e => by have := hE03.size; omega, fun g hg => Nat.le_trans g1.size (o3 g hg)⟩
end Go.Proofs
