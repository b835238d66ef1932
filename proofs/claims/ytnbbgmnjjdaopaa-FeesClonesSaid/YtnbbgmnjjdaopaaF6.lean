/- The document's Forget, Enter. -/
import Derived.Test.YtnbbgmnjjdaopaaF5
set_option linter.unusedSimpArgs false
set_option linter.unusedVariables false
set_option linter.constructorNameAsVariable false
namespace Go.Proofs
open Go.Vc Go.Proofs.Fees
set_option maxRecDepth 10000

theorem idxI_none {k : Array Value} {ws : List WE} (h : idxW k ws = none) : idxI k ws = -1 := by simp only [idxI, h]
theorem idxI_some {k : Array Value} {ws : List WE} {i : Nat} (h : idxW k ws = some i) : idxI k ws = i := by simp only [idxI, h]

/-- What the document's book is. -/
def RefIs (w w' : World) (u : Value) (rc : List Int) (ws : List WE) : Prop := ∃ v', u = .agg (refC rc v') ∧ WRow w' v' ws ∧ Ext w w'

theorem wcell_flat {e : WE} (h : HK e.1) : flat (wcell e) := flat_append (HK_flat h) (by rw [flat_2]; exact ⟨rfl, rfl⟩)
theorem rforget_ok (w : World) (rc : List Int) (v : Value) (ws : List WE) (k : Array Value) (hl : rc.length = 312) (hr : WRow w v ws) (hk : HK k) (hn : ws.length ≤ 1000000) :
    Calls Try.prog 24 #[.agg (refC rc v), .agg k] w (Ret fun u w' => RefIs w w' u rc (delW k ws)) := by
  refine calls_of_cfg c24_ok (Nat.le_of_ble_eq_true rfl) ?_
  simp only [argE_nil, argE_cons, Nat.reduceAdd, Nat.zero_add]
  have hks := HK_size hk
  have hkf := HK_flat hk
  have hsz : (refC rc v).size = 313 := by rw [size_refC, hl]
  have hrf := refC_flat (rc := rc) (one_row hr.1)
  have hlen := len_row hr.1
  have h1 : (refC rc v)[312]? = some v := refC_sl hl.symm
  (refine W_at c24_ok ?_; refine ⟨_, rfl, ?_⟩; simp (disch := first | omega | assumption | rfl | (simp only [vcS] <;> omega) | fail) only [↓ptV_l, ↓vcA, vcB, ↓vcD, vcE, ↓reduceIte, Nat.reduceEqDiff, Nat.reduceAdd, Nat.reduceMul, Nat.reduceLeDiff, Int.reduceLE, Int.reduceLT, Int.reduceEq, Int.reduceToNat, Int.reduceAdd, Int.reduceSub, Int.reduceMul, Int.reduceNeg, reduceCtorEq, Option.bind_some, Option.map_some, List.length_cons, List.length_nil, vcM, List.getElem?_toArray, List.getElem?_cons_zero, List.getElem?_cons_succ, hsz, hrf, hks, hkf])
  have hp2 : (((w.alloc (Obj.cells (refC rc v) 31)).alloc (Obj.cells k 47)).alloc (Obj.cells (zc [(312, Value.int IntKind.i64 0), (1, Value.slice none 0 0)]) 31)).heap[w.heap.size]? = some (.cells (refC rc v) 31 (0, 0)) := by simp (disch := first | omega | assumption | rfl | (simp only [vcS] <;> omega) | fail) only [↓ptV_l, ↓vcA, vcB, ↓vcD, vcE, ↓reduceIte, Nat.reduceEqDiff, Nat.reduceAdd, Nat.reduceMul, Nat.reduceLeDiff, Int.reduceLE, Int.reduceLT, Int.reduceEq, Int.reduceToNat, Int.reduceAdd, Int.reduceSub, Int.reduceMul, Int.reduceNeg, reduceCtorEq, Option.bind_some, Option.map_some, List.length_cons, List.length_nil, vcM, List.getElem?_toArray, List.getElem?_cons_zero, List.getElem?_cons_succ]
  have hp3 : (((w.alloc (Obj.cells (refC rc v) 31)).alloc (Obj.cells k 47)).alloc (Obj.cells (zc [(312, Value.int IntKind.i64 0), (1, Value.slice none 0 0)]) 31)).heap[w.heap.size + 1]? = some (.cells k 47 (0, 0)) := by simp (disch := first | omega | assumption | rfl | (simp only [vcS] <;> omega) | fail) only [↓ptV_l, ↓vcA, vcB, ↓vcD, vcE, ↓reduceIte, Nat.reduceEqDiff, Nat.reduceAdd, Nat.reduceMul, Nat.reduceLeDiff, Int.reduceLE, Int.reduceLT, Int.reduceEq, Int.reduceToNat, Int.reduceAdd, Int.reduceSub, Int.reduceMul, Int.reduceNeg, reduceCtorEq, Option.bind_some, Option.map_some, List.length_cons, List.length_nil, vcM, List.getElem?_toArray, List.getElem?_cons_zero, List.getElem?_cons_succ]
  have hp4 : (((w.alloc (Obj.cells (refC rc v) 31)).alloc (Obj.cells k 47)).alloc (Obj.cells (zc [(312, Value.int IntKind.i64 0), (1, Value.slice none 0 0)]) 31)).heap[w.heap.size + 2]? = some (.cells (zc [(312, Value.int IntKind.i64 0), (1, Value.slice none 0 0)]) 31 (0, 0)) := by simp (disch := first | omega | assumption | rfl | (simp only [vcS] <;> omega) | fail) only [↓ptV_l, ↓vcA, vcB, ↓vcD, vcE, ↓reduceIte, Nat.reduceEqDiff, Nat.reduceAdd, Nat.reduceMul, Nat.reduceLeDiff, Int.reduceLE, Int.reduceLT, Int.reduceEq, Int.reduceToNat, Int.reduceAdd, Int.reduceSub, Int.reduceMul, Int.reduceNeg, reduceCtorEq, Option.bind_some, Option.map_some, List.length_cons, List.length_nil, vcM, List.getElem?_toArray, List.getElem?_cons_zero, List.getElem?_cons_succ]
  have hE : Ext w (((w.alloc (Obj.cells (refC rc v) 31)).alloc (Obj.cells k 47)).alloc (Obj.cells (zc [(312, Value.int IntKind.i64 0), (1, Value.slice none 0 0)]) 31)) := by (repeat' first | exact Keep.refl _ _ | assumption | refine Keep.drew ?_ | refine Keep.alloc ?_ _ | refine Keep.putN ?_ _ ?_ | refine Keep.setCell ?_ _ ?_ | refine Keep.setO ?_ _ ?_ | exact fun _ => Or.inl rfl | exact fun _ => Or.inr rfl | exact fun _ => rfl | (intro hh; exfalso; ((try simp only [vcS] at hh) <;> omega)))
  generalize World.alloc (World.alloc (World.alloc _ _) _) _ = w1 at hp2 hp3 hp4 hE ⊢
  have hr1 := hr.keep hE fun _ _ h => h
  (refine W_at c24_ok ?_; refine ⟨_, rfl, ?_⟩; simp (disch := first | omega | assumption | rfl | (simp only [vcS] <;> omega) | fail) only [↓ptV_l, ↓vcA, vcB, ↓vcD, vcE, ↓reduceIte, Nat.reduceEqDiff, Nat.reduceAdd, Nat.reduceMul, Nat.reduceLeDiff, Int.reduceLE, Int.reduceLT, Int.reduceEq, Int.reduceToNat, Int.reduceAdd, Int.reduceSub, Int.reduceMul, Int.reduceNeg, reduceCtorEq, Option.bind_some, Option.map_some, List.length_cons, List.length_nil, vcM, List.getElem?_toArray, List.getElem?_cons_zero, List.getElem?_cons_succ, hp2, hp3, ext_all, hsz, hks])
  refine callV_ret (find_ok w1 rc v ws k hl hr1 hk) ?_
  rintro _ w2 ⟨rfl, hE2⟩
  have hp2' := hE2.at hp2 fun h => h
  have hp3' := hE2.at hp3 fun h => h
  have hp4' := hE2.at hp4 fun h => h
  have hr2 := hr1.keep hE2 fun _ _ h => h
  have hE' := hE.ext hE2
  have hz : (zc [(312, Value.int IntKind.i64 0), (1, Value.slice none 0 0)]).size = 313 := by simp [size_zc]
  clear hp2 hp3 hp4 hr1 hE2 hE

  cases hq : idxW k ws with
  | none =>
    have hi := idxI_none hq
    have hd : delW k ws = ws := by simp only [delW, hq]
    rw [hd]
    (refine W_at c24_ok ?_; refine ⟨_, rfl, ?_⟩; simp (disch := first | omega | assumption | rfl | (simp only [vcS] <;> omega) | fail) only [↓ptV_l, ↓vcA, vcB, ↓vcD, vcE, ↓reduceIte, Nat.reduceEqDiff, Nat.reduceAdd, Nat.reduceMul, Nat.reduceLeDiff, Int.reduceLE, Int.reduceLT, Int.reduceEq, Int.reduceToNat, Int.reduceAdd, Int.reduceSub, Int.reduceMul, Int.reduceNeg, reduceCtorEq, Option.bind_some, Option.map_some, List.length_cons, List.length_nil, vcM, List.getElem?_toArray, List.getElem?_cons_zero, List.getElem?_cons_succ, hi])
    (refine W_at c24_ok ?_; refine ⟨_, rfl, ?_⟩; simp (disch := first | omega | assumption | rfl | (simp only [vcS] <;> omega) | fail) only [↓ptV_l, ↓vcA, vcB, ↓vcD, vcE, ↓reduceIte, Nat.reduceEqDiff, Nat.reduceAdd, Nat.reduceMul, Nat.reduceLeDiff, Int.reduceLE, Int.reduceLT, Int.reduceEq, Int.reduceToNat, Int.reduceAdd, Int.reduceSub, Int.reduceMul, Int.reduceNeg, reduceCtorEq, Option.bind_some, Option.map_some, List.length_cons, List.length_nil, vcM, List.getElem?_toArray, List.getElem?_cons_zero, List.getElem?_cons_succ])
    (refine W_at c24_ok ?_; refine ⟨_, rfl, ?_⟩; simp (disch := first | omega | assumption | rfl | (simp only [vcS] <;> omega) | fail) only [↓ptV_l, ↓vcA, vcB, ↓vcD, vcE, ↓reduceIte, Nat.reduceEqDiff, Nat.reduceAdd, Nat.reduceMul, Nat.reduceLeDiff, Int.reduceLE, Int.reduceLT, Int.reduceEq, Int.reduceToNat, Int.reduceAdd, Int.reduceSub, Int.reduceMul, Int.reduceNeg, reduceCtorEq, Option.bind_some, Option.map_some, List.length_cons, List.length_nil, vcM, List.getElem?_toArray, List.getElem?_cons_zero, List.getElem?_cons_succ, hp2', hp4', hz, hsz, ext_all])
    refine ⟨hrf, ?_⟩
    have hq4 : (w2.putN (w.heap.size + 1 + 1) 0 (refC rc v)).heap[w.heap.size + 1 + 1]? = some (.cells (refC rc v) 31 (0, 0)) := by
      rw [heap_putN_eq hp4', splice_all (by rw [hsz, hz])]
    (refine W_at c24_ok ?_; refine ⟨_, rfl, ?_⟩; simp (disch := first | omega | assumption | rfl | (simp only [vcS] <;> omega) | fail) only [↓ptV_l, ↓vcA, vcB, ↓vcD, vcE, ↓reduceIte, Nat.reduceEqDiff, Nat.reduceAdd, Nat.reduceMul, Nat.reduceLeDiff, Int.reduceLE, Int.reduceLT, Int.reduceEq, Int.reduceToNat, Int.reduceAdd, Int.reduceSub, Int.reduceMul, Int.reduceNeg, reduceCtorEq, Option.bind_some, Option.map_some, List.length_cons, List.length_nil, vcM, List.getElem?_toArray, List.getElem?_cons_zero, List.getElem?_cons_succ, hq4, ext_all, hsz, Ret_returned])
    exact ⟨v, rfl, hr.keep (w := w) (S := fun _ => False) (by (repeat' first | exact Keep.refl _ _ | assumption | refine Keep.drew ?_ | refine Keep.alloc ?_ _ | refine Keep.putN ?_ _ ?_ | refine Keep.setCell ?_ _ ?_ | refine Keep.setO ?_ _ ?_ | exact fun _ => Or.inl rfl | exact fun _ => Or.inr rfl | exact fun _ => rfl | (intro hh; exfalso; ((try simp only [vcS] at hh) <;> omega)))) fun _ _ h => h, by (repeat' first | exact Keep.refl _ _ | assumption | refine Keep.drew ?_ | refine Keep.alloc ?_ _ | refine Keep.putN ?_ _ ?_ | refine Keep.setCell ?_ _ ?_ | refine Keep.setO ?_ _ ?_ | exact fun _ => Or.inl rfl | exact fun _ => Or.inr rfl | exact fun _ => rfl | (intro hh; exfalso; ((try simp only [vcS] at hh) <;> omega)))⟩
  | some i =>
    have hi := idxI_some hq
    obtain ⟨e, hei, hek⟩ := idxW_lt hq
    have hi2 : 0 ≤ (i : Int) := by omega
    have hil : i < (ws.map wcell).length := by rw [List.length_map]; exact (List.getElem?_eq_some_iff.1 hei).1
    have hmax := row_max hr.1
    have hwi : IntKind.i64.wrap ((i : Int) + 1) = ((i + 1 : Nat) : Int) := wrap_i64 (by omega) (by simp only [maxLen] at hmax; omega)
    have hcs : ∀ c ∈ ws.map wcell, c.size = 34 := fun c hc => by obtain ⟨e, he, rfl⟩ := List.mem_map.1 hc; exact wcell_size (hr.2 e he)
    have hcf : ∀ c ∈ ws.map wcell, flat c := fun c hc => by obtain ⟨e, he, rfl⟩ := List.mem_map.1 hc; exact wcell_flat (hr.2 e he)
    obtain ⟨p1, c1, hs1, hd1⟩ := cut_to hr2.1 hcs (i := i) (by omega)
    obtain ⟨p2, c2, hs2, hd2⟩ := cut_from hr2.1 hcs (i := i + 1) (by omega)
    have hlt2 := lt_of_heap hp2'
    have hlt2' := lt_of_heap hp4'
    (refine W_at c24_ok ?_; refine ⟨_, rfl, ?_⟩; simp (disch := first | omega | assumption | rfl | (simp only [vcS] <;> omega) | fail) only [↓ptV_l, ↓vcA, vcB, ↓vcD, vcE, ↓reduceIte, Nat.reduceEqDiff, Nat.reduceAdd, Nat.reduceMul, Nat.reduceLeDiff, Int.reduceLE, Int.reduceLT, Int.reduceEq, Int.reduceToNat, Int.reduceAdd, Int.reduceSub, Int.reduceMul, Int.reduceNeg, reduceCtorEq, Option.bind_some, Option.map_some, List.length_cons, List.length_nil, vcM, List.getElem?_toArray, List.getElem?_cons_zero, List.getElem?_cons_succ, hi, hi2])
    (refine W_at c24_ok ?_; refine ⟨_, rfl, ?_⟩; simp (disch := first | omega | assumption | rfl | (simp only [vcS] <;> omega) | fail) only [↓ptV_l, ↓vcA, vcB, ↓vcD, vcE, ↓reduceIte, Nat.reduceEqDiff, Nat.reduceAdd, Nat.reduceMul, Nat.reduceLeDiff, Int.reduceLE, Int.reduceLT, Int.reduceEq, Int.reduceToNat, Int.reduceAdd, Int.reduceSub, Int.reduceMul, Int.reduceNeg, reduceCtorEq, Option.bind_some, Option.map_some, List.length_cons, List.length_nil, vcM, List.getElem?_toArray, List.getElem?_cons_zero, List.getElem?_cons_succ])
    (refine W_at c24_ok ?_; refine ⟨_, rfl, ?_⟩; simp (disch := first | omega | assumption | rfl | (simp only [vcS] <;> omega) | fail) only [↓ptV_l, ↓vcA, vcB, ↓vcD, vcE, ↓reduceIte, Nat.reduceEqDiff, Nat.reduceAdd, Nat.reduceMul, Nat.reduceLeDiff, Int.reduceLE, Int.reduceLT, Int.reduceEq, Int.reduceToNat, Int.reduceAdd, Int.reduceSub, Int.reduceMul, Int.reduceNeg, reduceCtorEq, Option.bind_some, Option.map_some, List.length_cons, List.length_nil, vcM, List.getElem?_toArray, List.getElem?_cons_zero, List.getElem?_cons_succ, hp2', h1, hwi, hs1, hs2, hwi])
    have hE3 : Ext w (w2.drew.alloc (Obj.cells #[] 49)) := by (repeat' first | exact Keep.refl _ _ | assumption | refine Keep.drew ?_ | refine Keep.alloc ?_ _ | refine Keep.putN ?_ _ ?_ | refine Keep.setCell ?_ _ ?_ | refine Keep.setO ?_ _ ?_ | exact fun _ => Or.inl rfl | exact fun _ => Or.inr rfl | exact fun _ => rfl | (intro hh; exfalso; ((try simp only [vcS] at hh) <;> omega)))
    have hE4 : Ext w2 (w2.drew.alloc (Obj.cells #[] 49)) := by (repeat' first | exact Keep.refl _ _ | assumption | refine Keep.drew ?_ | refine Keep.alloc ?_ _ | refine Keep.putN ?_ _ ?_ | refine Keep.setCell ?_ _ ?_ | refine Keep.setO ?_ _ ?_ | exact fun _ => Or.inl rfl | exact fun _ => Or.inr rfl | exact fun _ => rfl | (intro hh; exfalso; ((try simp only [vcS] at hh) <;> omega)))
    have hrow : (w2.drew.alloc (Obj.cells #[] 49)).ownsRow w2.heap.size 49 34 (.slice (some ⟨w2.heap.size, 0, none⟩) 0 0) 0 [] := ownsRow_lit (Nat.le_refl _) rfl (Nat.zero_le _)
    have hlt3 : w2.heap.size ≥ w.heap.size := hE'.size
    have hd1' := rdS_keep hd1 hE4 fun _ _ h => h
    have hnew : (w2.drew.alloc (Obj.cells #[] 49)).heap.size = w2.heap.size + 1 := by simp only [size_alloc, size_drew]
    have hnm : (ws.map wcell).length = ws.length := List.length_map _
    generalize World.alloc _ _ = w3 at *
    refine appV_own hrow rfl hd1' (flat_flat fun c hc => hcf c (List.mem_of_mem_take hc)) (by simp only [maxLen]; omega) (by omega) rfl (by omega) (by omega) ?_
    intro v4 w4 hrow4 hg4
    have hE4' := grown_ext hE4 hrow hg4 (Nat.le_refl _)
    have hp4 := hE4'.at hp2' fun h => h
    have hd2' := rdS_keep hd2 hE4' fun _ _ h => h
    have hs4 := hg4.size
    refine ⟨by rw [hp4, cellO_some, h1], ?_⟩
    refine appV_own hrow4 rfl hd2' (flat_flat fun c hc => hcf c (List.mem_of_mem_drop hc)) (by simp only [maxLen]; omega) (by omega) rfl (by omega) (by omega) ?_
    intro v5 w5 hrow5 hg5
    have hE5 := grown_ext hE4' hrow4 hg5 (Nat.le_refl _)
    have hp5 := hE5.at hp2' fun h => h
    have hq5 := hE5.at hp4' fun h => h
    have hEw := hE'.ext hE5
    refine ⟨one_row hrow5, wr1_of hp5 (by omega), ?_⟩
    have hlt5 := lt_of_heap hp5
    have hlq5 := lt_of_heap hq5
    have hp6 : (w5.setCell ⟨w.heap.size, 312, none⟩ v5).heap[w.heap.size]? = some (.cells (refC rc v5) 31 (0, 0)) := by
      rw [heap_setCell_eq hp5, refC_setv hl.symm]
    have hq6 : (w5.setCell ⟨w.heap.size, 312, none⟩ v5).heap[w.heap.size + 1 + 1]? = some (.cells (zc [(312, Value.int IntKind.i64 0), (1, Value.slice none 0 0)]) 31 (0, 0)) := by
      rw [heap_setCell_ne _ _ _ _ _ _ (by omega)]; exact hq5
    have hE6 : Ext w (w5.setCell ⟨w.heap.size, 312, none⟩ v5) := by (repeat' first | exact Keep.refl _ _ | assumption | refine Keep.drew ?_ | refine Keep.alloc ?_ _ | refine Keep.putN ?_ _ ?_ | refine Keep.setCell ?_ _ ?_ | refine Keep.setO ?_ _ ?_ | exact fun _ => Or.inl rfl | exact fun _ => Or.inr rfl | exact fun _ => rfl | (intro hh; exfalso; ((try simp only [vcS] at hh) <;> omega)))
    have hK6 : Keep (fun i => i = w.heap.size) w5 (w5.setCell ⟨w.heap.size, 312, none⟩ v5) := by (repeat' first | exact Keep.refl _ _ | assumption | refine Keep.drew ?_ | refine Keep.alloc ?_ _ | refine Keep.putN ?_ _ ?_ | refine Keep.setCell ?_ _ ?_ | refine Keep.setO ?_ _ ?_ | exact fun _ => Or.inl rfl | exact fun _ => Or.inr rfl | exact fun _ => rfl | (intro hh; exfalso; ((try simp only [vcS] at hh) <;> omega)))
    have hrow6 := ownsRow_keep hrow5 hK6 fun b hb (h : b = w.heap.size) => by have := own_block hrow5 hb; omega
    have hsz5 : (refC rc v5).size = 313 := by rw [size_refC, hl]
    have hf5 := refC_flat (rc := rc) (one_row hrow5)
    generalize World.setCell w5 _ _ = w6 at *
    (refine W_at c24_ok ?_; refine ⟨_, rfl, ?_⟩; simp (disch := first | omega | assumption | rfl | (simp only [vcS] <;> omega) | fail) only [↓ptV_l, ↓vcA, vcB, ↓vcD, vcE, ↓reduceIte, Nat.reduceEqDiff, Nat.reduceAdd, Nat.reduceMul, Nat.reduceLeDiff, Int.reduceLE, Int.reduceLT, Int.reduceEq, Int.reduceToNat, Int.reduceAdd, Int.reduceSub, Int.reduceMul, Int.reduceNeg, reduceCtorEq, Option.bind_some, Option.map_some, List.length_cons, List.length_nil, vcM, List.getElem?_toArray, List.getElem?_cons_zero, List.getElem?_cons_succ, hp6, hq6, hz, hsz5, ext_all])
    refine ⟨hf5, ?_⟩
    have hq7 : (w6.putN (w.heap.size + 1 + 1) 0 (refC rc v5)).heap[w.heap.size + 1 + 1]? = some (.cells (refC rc v5) 31 (0, 0)) := by
      rw [heap_putN_eq hq6, splice_all (by rw [hsz5, hz])]
    (refine W_at c24_ok ?_; refine ⟨_, rfl, ?_⟩; simp (disch := first | omega | assumption | rfl | (simp only [vcS] <;> omega) | fail) only [↓ptV_l, ↓vcA, vcB, ↓vcD, vcE, ↓reduceIte, Nat.reduceEqDiff, Nat.reduceAdd, Nat.reduceMul, Nat.reduceLeDiff, Int.reduceLE, Int.reduceLT, Int.reduceEq, Int.reduceToNat, Int.reduceAdd, Int.reduceSub, Int.reduceMul, Int.reduceNeg, reduceCtorEq, Option.bind_some, Option.map_some, List.length_cons, List.length_nil, vcM, List.getElem?_toArray, List.getElem?_cons_zero, List.getElem?_cons_succ, hq7, ext_all, hsz5, Ret_returned])
    refine ⟨v5, rfl, ⟨?_, HKs_del hr.2⟩, by (repeat' first | exact Keep.refl _ _ | assumption | refine Keep.drew ?_ | refine Keep.alloc ?_ _ | refine Keep.putN ?_ _ ?_ | refine Keep.setCell ?_ _ ?_ | refine Keep.setO ?_ _ ?_ | exact fun _ => Or.inl rfl | exact fun _ => Or.inr rfl | exact fun _ => rfl | (intro hh; exfalso; ((try simp only [vcS] at hh) <;> omega)))⟩
    have hK7 : Keep (fun i => i = w.heap.size + 1 + 1) w6 (w6.putN (w.heap.size + 1 + 1) 0 (refC rc v5)) := by (repeat' first | exact Keep.refl _ _ | assumption | refine Keep.drew ?_ | refine Keep.alloc ?_ _ | refine Keep.putN ?_ _ ?_ | refine Keep.setCell ?_ _ ?_ | refine Keep.setO ?_ _ ?_ | exact fun _ => Or.inl rfl | exact fun _ => Or.inr rfl | exact fun _ => rfl | (intro hh; exfalso; ((try simp only [vcS] at hh) <;> omega)))
    have hrow7 := own_base (ownsRow_keep hrow6 hK7 fun b hb (h : b = w.heap.size + 1 + 1) => by have := own_block hrow5 hb; omega) 0 (Nat.zero_le _)
    have e1 : delW k ws = ws.take i ++ ws.drop (i + 1) := by simp only [delW, hq]; exact List.eraseIdx_eq_take_drop_succ ..
    have e2 : (List.map wcell (delW k ws)).length = 0 + i + ((ws.map wcell).length - (i + 1)) := by rw [e1]; simp; omega
    have e3 : wcells (delW k ws) = [] ++ (List.flatMap Array.toList (List.take i (ws.map wcell))).toArray.toList ++ (List.flatMap Array.toList (List.drop (i + 1) (ws.map wcell))).toArray.toList := by
      rw [e1]; simp [wcells, List.flatMap_append, List.map_append]
    rw [e2, e3]; exact hrow7

theorem renter_ok (w : World) (rc : List Int) (v : Value) (ws : List WE) (k : Array Value) (r h : Int) (hl : rc.length = 312) (hr : WRow w v ws) (hk : HK k) (hn : ws.length ≤ 1000000) :
    Calls Try.prog 26 #[.agg (refC rc v), .agg k, .int .i64 r, .int .i64 h] w (Ret fun u w' => RefIs w w' u rc (entW k (bucketF r) h ws)) := by
  refine calls_of_cfg c26_ok (Nat.le_of_ble_eq_true rfl) ?_
  simp only [argE_nil, argE_cons, Nat.reduceAdd, Nat.zero_add]
  have hks := HK_size hk
  have hkf := HK_flat hk
  have hsz : (refC rc v).size = 313 := by rw [size_refC, hl]
  have hrf := refC_flat (rc := rc) (one_row hr.1)
  have hlen := len_row hr.1
  have h1 : (refC rc v)[312]? = some v := refC_sl hl.symm
  (refine W_at c26_ok ?_; refine ⟨_, rfl, ?_⟩; simp (disch := first | omega | assumption | rfl | (simp only [vcS] <;> omega) | fail) only [↓ptV_l, ↓vcA, vcB, ↓vcD, vcE, ↓reduceIte, Nat.reduceEqDiff, Nat.reduceAdd, Nat.reduceMul, Nat.reduceLeDiff, Int.reduceLE, Int.reduceLT, Int.reduceEq, Int.reduceToNat, Int.reduceAdd, Int.reduceSub, Int.reduceMul, Int.reduceNeg, reduceCtorEq, Option.bind_some, Option.map_some, List.length_cons, List.length_nil, vcM, List.getElem?_toArray, List.getElem?_cons_zero, List.getElem?_cons_succ, hsz, hrf, hks, hkf])
  have hp2 : (((w.alloc (Obj.cells (refC rc v) 31)).alloc (Obj.cells k 47)).alloc (Obj.cells (zc [(312, Value.int IntKind.i64 0), (1, Value.slice none 0 0)]) 31)).heap[w.heap.size]? = some (.cells (refC rc v) 31 (0, 0)) := by simp (disch := first | omega | assumption | rfl | (simp only [vcS] <;> omega) | fail) only [↓ptV_l, ↓vcA, vcB, ↓vcD, vcE, ↓reduceIte, Nat.reduceEqDiff, Nat.reduceAdd, Nat.reduceMul, Nat.reduceLeDiff, Int.reduceLE, Int.reduceLT, Int.reduceEq, Int.reduceToNat, Int.reduceAdd, Int.reduceSub, Int.reduceMul, Int.reduceNeg, reduceCtorEq, Option.bind_some, Option.map_some, List.length_cons, List.length_nil, vcM, List.getElem?_toArray, List.getElem?_cons_zero, List.getElem?_cons_succ]
  have hp3 : (((w.alloc (Obj.cells (refC rc v) 31)).alloc (Obj.cells k 47)).alloc (Obj.cells (zc [(312, Value.int IntKind.i64 0), (1, Value.slice none 0 0)]) 31)).heap[w.heap.size + 1]? = some (.cells k 47 (0, 0)) := by simp (disch := first | omega | assumption | rfl | (simp only [vcS] <;> omega) | fail) only [↓ptV_l, ↓vcA, vcB, ↓vcD, vcE, ↓reduceIte, Nat.reduceEqDiff, Nat.reduceAdd, Nat.reduceMul, Nat.reduceLeDiff, Int.reduceLE, Int.reduceLT, Int.reduceEq, Int.reduceToNat, Int.reduceAdd, Int.reduceSub, Int.reduceMul, Int.reduceNeg, reduceCtorEq, Option.bind_some, Option.map_some, List.length_cons, List.length_nil, vcM, List.getElem?_toArray, List.getElem?_cons_zero, List.getElem?_cons_succ]
  have hp4 : (((w.alloc (Obj.cells (refC rc v) 31)).alloc (Obj.cells k 47)).alloc (Obj.cells (zc [(312, Value.int IntKind.i64 0), (1, Value.slice none 0 0)]) 31)).heap[w.heap.size + 2]? = some (.cells (zc [(312, Value.int IntKind.i64 0), (1, Value.slice none 0 0)]) 31 (0, 0)) := by simp (disch := first | omega | assumption | rfl | (simp only [vcS] <;> omega) | fail) only [↓ptV_l, ↓vcA, vcB, ↓vcD, vcE, ↓reduceIte, Nat.reduceEqDiff, Nat.reduceAdd, Nat.reduceMul, Nat.reduceLeDiff, Int.reduceLE, Int.reduceLT, Int.reduceEq, Int.reduceToNat, Int.reduceAdd, Int.reduceSub, Int.reduceMul, Int.reduceNeg, reduceCtorEq, Option.bind_some, Option.map_some, List.length_cons, List.length_nil, vcM, List.getElem?_toArray, List.getElem?_cons_zero, List.getElem?_cons_succ]
  have hE : Ext w (((w.alloc (Obj.cells (refC rc v) 31)).alloc (Obj.cells k 47)).alloc (Obj.cells (zc [(312, Value.int IntKind.i64 0), (1, Value.slice none 0 0)]) 31)) := by (repeat' first | exact Keep.refl _ _ | assumption | refine Keep.drew ?_ | refine Keep.alloc ?_ _ | refine Keep.putN ?_ _ ?_ | refine Keep.setCell ?_ _ ?_ | refine Keep.setO ?_ _ ?_ | exact fun _ => Or.inl rfl | exact fun _ => Or.inr rfl | exact fun _ => rfl | (intro hh; exfalso; ((try simp only [vcS] at hh) <;> omega)))
  generalize World.alloc (World.alloc (World.alloc _ _) _) _ = w1 at hp2 hp3 hp4 hE ⊢
  have hr1 := hr.keep hE fun _ _ h => h
  (refine W_at c26_ok ?_; refine ⟨_, rfl, ?_⟩; simp (disch := first | omega | assumption | rfl | (simp only [vcS] <;> omega) | fail) only [↓ptV_l, ↓vcA, vcB, ↓vcD, vcE, ↓reduceIte, Nat.reduceEqDiff, Nat.reduceAdd, Nat.reduceMul, Nat.reduceLeDiff, Int.reduceLE, Int.reduceLT, Int.reduceEq, Int.reduceToNat, Int.reduceAdd, Int.reduceSub, Int.reduceMul, Int.reduceNeg, reduceCtorEq, Option.bind_some, Option.map_some, List.length_cons, List.length_nil, vcM, List.getElem?_toArray, List.getElem?_cons_zero, List.getElem?_cons_succ, hp2, hp3, ext_all, hsz, hks])
  refine callV_ret (find_ok w1 rc v ws k hl hr1 hk) ?_
  rintro _ w2 ⟨rfl, hE2⟩
  have hp2' := hE2.at hp2 fun h => h
  have hp3' := hE2.at hp3 fun h => h
  have hp4' := hE2.at hp4 fun h => h
  have hr2 := hr1.keep hE2 fun _ _ h => h
  have hE' := hE.ext hE2
  have hz : (zc [(312, Value.int IntKind.i64 0), (1, Value.slice none 0 0)]).size = 313 := by simp [size_zc]
  clear hp2 hp3 hp4 hr1 hE2 hE
  have hlt2 := lt_of_heap hp2'
  have hlt2' := lt_of_heap hp4'
  have hlt3 := lt_of_heap hp3'
  cases hq : idxW k ws with
  | some i =>
    have hi := idxI_some hq
    have hi2 : ¬ ((i : Int) < 0) := by omega
    have hd : entW k (bucketF r) h ws = ws := by simp only [entW, hq]
    rw [hd]
    simp (disch := first | omega | assumption | rfl | (simp only [vcS] <;> omega) | fail) only [↓ptV_l, ↓vcA, vcB, ↓vcD, vcE, ↓reduceIte, Nat.reduceEqDiff, Nat.reduceAdd, Nat.reduceMul, Nat.reduceLeDiff, Int.reduceLE, Int.reduceLT, Int.reduceEq, Int.reduceToNat, Int.reduceAdd, Int.reduceSub, Int.reduceMul, Int.reduceNeg, reduceCtorEq, Option.bind_some, Option.map_some, List.length_cons, List.length_nil, vcM, List.getElem?_toArray, List.getElem?_cons_zero, List.getElem?_cons_succ, hi, hi2]
    (refine W_at c26_ok ?_; refine ⟨_, rfl, ?_⟩; simp (disch := first | omega | assumption | rfl | (simp only [vcS] <;> omega) | fail) only [↓ptV_l, ↓vcA, vcB, ↓vcD, vcE, ↓reduceIte, Nat.reduceEqDiff, Nat.reduceAdd, Nat.reduceMul, Nat.reduceLeDiff, Int.reduceLE, Int.reduceLT, Int.reduceEq, Int.reduceToNat, Int.reduceAdd, Int.reduceSub, Int.reduceMul, Int.reduceNeg, reduceCtorEq, Option.bind_some, Option.map_some, List.length_cons, List.length_nil, vcM, List.getElem?_toArray, List.getElem?_cons_zero, List.getElem?_cons_succ])
    (refine W_at c26_ok ?_; refine ⟨_, rfl, ?_⟩; simp (disch := first | omega | assumption | rfl | (simp only [vcS] <;> omega) | fail) only [↓ptV_l, ↓vcA, vcB, ↓vcD, vcE, ↓reduceIte, Nat.reduceEqDiff, Nat.reduceAdd, Nat.reduceMul, Nat.reduceLeDiff, Int.reduceLE, Int.reduceLT, Int.reduceEq, Int.reduceToNat, Int.reduceAdd, Int.reduceSub, Int.reduceMul, Int.reduceNeg, reduceCtorEq, Option.bind_some, Option.map_some, List.length_cons, List.length_nil, vcM, List.getElem?_toArray, List.getElem?_cons_zero, List.getElem?_cons_succ, hp2', hp4', hz, hsz, ext_all])
    refine ⟨hrf, ?_⟩
    have hq4 : (w2.putN (w.heap.size + 1 + 1) 0 (refC rc v)).heap[w.heap.size + 1 + 1]? = some (.cells (refC rc v) 31 (0, 0)) := by
      rw [heap_putN_eq hp4', splice_all (by rw [hsz, hz])]
    (refine W_at c26_ok ?_; refine ⟨_, rfl, ?_⟩; simp (disch := first | omega | assumption | rfl | (simp only [vcS] <;> omega) | fail) only [↓ptV_l, ↓vcA, vcB, ↓vcD, vcE, ↓reduceIte, Nat.reduceEqDiff, Nat.reduceAdd, Nat.reduceMul, Nat.reduceLeDiff, Int.reduceLE, Int.reduceLT, Int.reduceEq, Int.reduceToNat, Int.reduceAdd, Int.reduceSub, Int.reduceMul, Int.reduceNeg, reduceCtorEq, Option.bind_some, Option.map_some, List.length_cons, List.length_nil, vcM, List.getElem?_toArray, List.getElem?_cons_zero, List.getElem?_cons_succ, hq4, ext_all, hsz, Ret_returned])
    exact ⟨v, rfl, hr.keep (w := w) (S := fun _ => False) (by (repeat' first | exact Keep.refl _ _ | assumption | refine Keep.drew ?_ | refine Keep.alloc ?_ _ | refine Keep.putN ?_ _ ?_ | refine Keep.setCell ?_ _ ?_ | refine Keep.setO ?_ _ ?_ | exact fun _ => Or.inl rfl | exact fun _ => Or.inr rfl | exact fun _ => rfl | (intro hh; exfalso; ((try simp only [vcS] at hh) <;> omega)))) fun _ _ h => h, by (repeat' first | exact Keep.refl _ _ | assumption | refine Keep.drew ?_ | refine Keep.alloc ?_ _ | refine Keep.putN ?_ _ ?_ | refine Keep.setCell ?_ _ ?_ | refine Keep.setO ?_ _ ?_ | exact fun _ => Or.inl rfl | exact fun _ => Or.inr rfl | exact fun _ => rfl | (intro hh; exfalso; ((try simp only [vcS] at hh) <;> omega)))⟩
  | none =>
    have hi := idxI_none hq
    have hmax := row_max hr.1
    have hcs : ∀ c ∈ ws.map wcell, c.size = 34 := fun c hc => by obtain ⟨e, he, rfl⟩ := List.mem_map.1 hc; exact wcell_size (hr.2 e he)
    have hcf : ∀ c ∈ ws.map wcell, flat c := fun c hc => by obtain ⟨e, he, rfl⟩ := List.mem_map.1 hc; exact wcell_flat (hr.2 e he)
    simp (disch := first | omega | assumption | rfl | (simp only [vcS] <;> omega) | fail) only [↓ptV_l, ↓vcA, vcB, ↓vcD, vcE, ↓reduceIte, Nat.reduceEqDiff, Nat.reduceAdd, Nat.reduceMul, Nat.reduceLeDiff, Int.reduceLE, Int.reduceLT, Int.reduceEq, Int.reduceToNat, Int.reduceAdd, Int.reduceSub, Int.reduceMul, Int.reduceNeg, reduceCtorEq, Option.bind_some, Option.map_some, List.length_cons, List.length_nil, vcM, List.getElem?_toArray, List.getElem?_cons_zero, List.getElem?_cons_succ, hi]
    (refine W_at c26_ok ?_; refine ⟨_, rfl, ?_⟩; simp (disch := first | omega | assumption | rfl | (simp only [vcS] <;> omega) | fail) only [↓ptV_l, ↓vcA, vcB, ↓vcD, vcE, ↓reduceIte, Nat.reduceEqDiff, Nat.reduceAdd, Nat.reduceMul, Nat.reduceLeDiff, Int.reduceLE, Int.reduceLT, Int.reduceEq, Int.reduceToNat, Int.reduceAdd, Int.reduceSub, Int.reduceMul, Int.reduceNeg, reduceCtorEq, Option.bind_some, Option.map_some, List.length_cons, List.length_nil, vcM, List.getElem?_toArray, List.getElem?_cons_zero, List.getElem?_cons_succ])
    (refine W_at c26_ok ?_; refine ⟨_, rfl, ?_⟩; simp (disch := first | omega | assumption | rfl | (simp only [vcS] <;> omega) | fail) only [↓ptV_l, ↓vcA, vcB, ↓vcD, vcE, ↓reduceIte, Nat.reduceEqDiff, Nat.reduceAdd, Nat.reduceMul, Nat.reduceLeDiff, Int.reduceLE, Int.reduceLT, Int.reduceEq, Int.reduceToNat, Int.reduceAdd, Int.reduceSub, Int.reduceMul, Int.reduceNeg, reduceCtorEq, Option.bind_some, Option.map_some, List.length_cons, List.length_nil, vcM, List.getElem?_toArray, List.getElem?_cons_zero, List.getElem?_cons_succ, hp2', h1, hp3', hks, ext_all])
    have hE4 : Ext w2 (w2.drew.alloc (Obj.cells #[] 49)) := by (repeat' first | exact Keep.refl _ _ | assumption | refine Keep.drew ?_ | refine Keep.alloc ?_ _ | refine Keep.putN ?_ _ ?_ | refine Keep.setCell ?_ _ ?_ | refine Keep.setO ?_ _ ?_ | exact fun _ => Or.inl rfl | exact fun _ => Or.inr rfl | exact fun _ => rfl | (intro hh; exfalso; ((try simp only [vcS] at hh) <;> omega)))
    have hrow : (w2.drew.alloc (Obj.cells #[] 49)).ownsRow w2.heap.size 49 34 (.slice (some ⟨w2.heap.size, 0, none⟩) 0 0) 0 [] := ownsRow_lit (Nat.le_refl _) rfl (Nat.zero_le _)
    have hr3 := hr2.keep hE4 fun _ _ h => h
    have hd1' := rdS_own hr3.1
    have hnew : (w2.drew.alloc (Obj.cells #[] 49)).heap.size = w2.heap.size + 1 := by simp only [size_alloc, size_drew]
    have hnm : (ws.map wcell).length = ws.length := List.length_map _
    have hvs : ∃ p c, v = .slice p (ws.map wcell).length c := by
      obtain ⟨_, ⟨rfl, h0⟩ | ⟨g, cap, cur, rfl, _⟩⟩ := hr.1
      · exact ⟨none, 0, by rw [h0]⟩
      · exact ⟨_, _, rfl⟩
    obtain ⟨pv, cv, hv⟩ := hvs
    generalize World.alloc _ _ = w3 at *
    refine appV_own hrow hv hd1' (flat_flat hcf) (by simp only [maxLen]; omega) (by omega) rfl (by omega) (by omega) ?_
    intro v4 w4 hrow4 hg4
    have hE4' := grown_ext hE4 hrow hg4 (Nat.le_refl _)
    have hp4 := hE4'.at hp2' fun h => h
    have hk4 := hE4'.at hp3' fun h => h
    have hs4 := hg4.size
    have hlt4 := lt_of_heap hp4
    refine ⟨by simp (disch := first | omega | assumption | rfl | (simp only [vcS] <;> omega) | fail) only [↓ptV_l, ↓vcA, vcB, ↓vcD, vcE, ↓reduceIte, Nat.reduceEqDiff, Nat.reduceAdd, Nat.reduceMul, Nat.reduceLeDiff, Int.reduceLE, Int.reduceLT, Int.reduceEq, Int.reduceToNat, Int.reduceAdd, Int.reduceSub, Int.reduceMul, Int.reduceNeg, reduceCtorEq, Option.bind_some, Option.map_some, List.length_cons, List.length_nil, vcM, List.getElem?_toArray, List.getElem?_cons_zero, List.getElem?_cons_succ, hk4, hks, ext_all], ?_⟩
    refine callV_ret (rbucket_ok r w4) ?_
    rintro _ w4' ⟨rfl, hw4⟩
    obtain rfl : w4 = w4' := hw4.symm
    have hwc : (k ++ #[Value.int IntKind.i64 (bucketF r), Value.int IntKind.i64 h]).size = 34 := by simp [hks]
    have hwf : flat (k ++ #[Value.int IntKind.i64 (bucketF r), Value.int IntKind.i64 h]) := flat_append hkf (by rw [flat_2]; exact ⟨rfl, rfl⟩)
    simp (disch := first | omega | assumption | rfl | (simp only [vcS] <;> omega) | fail) only [↓ptV_l, ↓vcA, vcB, ↓vcD, vcE, ↓reduceIte, Nat.reduceEqDiff, Nat.reduceAdd, Nat.reduceMul, Nat.reduceLeDiff, Int.reduceLE, Int.reduceLT, Int.reduceEq, Int.reduceToNat, Int.reduceAdd, Int.reduceSub, Int.reduceMul, Int.reduceNeg, reduceCtorEq, Option.bind_some, Option.map_some, List.length_cons, List.length_nil, vcM, List.getElem?_toArray, List.getElem?_cons_zero, List.getElem?_cons_succ, hk4, hks, hwc, List.append_nil]
    have hE5 : Ext w2 (w4.alloc (Obj.cells (k ++ #[Value.int IntKind.i64 (bucketF r), Value.int IntKind.i64 h]).toList.toArray 49)) := by (repeat' first | exact Keep.refl _ _ | assumption | refine Keep.drew ?_ | refine Keep.alloc ?_ _ | refine Keep.putN ?_ _ ?_ | refine Keep.setCell ?_ _ ?_ | refine Keep.setO ?_ _ ?_ | exact fun _ => Or.inl rfl | exact fun _ => Or.inr rfl | exact fun _ => rfl | (intro hh; exfalso; ((try simp only [vcS] at hh) <;> omega)))
    have hE5' : Ext w4 (w4.alloc (Obj.cells (k ++ #[Value.int IntKind.i64 (bucketF r), Value.int IntKind.i64 h]).toList.toArray 49)) := by (repeat' first | exact Keep.refl _ _ | assumption | refine Keep.drew ?_ | refine Keep.alloc ?_ _ | refine Keep.putN ?_ _ ?_ | refine Keep.setCell ?_ _ ?_ | refine Keep.setO ?_ _ ?_ | exact fun _ => Or.inl rfl | exact fun _ => Or.inr rfl | exact fun _ => rfl | (intro hh; exfalso; ((try simp only [vcS] at hh) <;> omega)))
    have hrow5 := ownsRow_keep hrow4 hE5' fun _ _ h => h
    have hd5 : rdS (w4.alloc (Obj.cells (k ++ #[Value.int IntKind.i64 (bucketF r), Value.int IntKind.i64 h]).toList.toArray 49)) 34 (.slice (some ⟨w4.heap.size, 0, none⟩) 1 1) = some (k ++ #[Value.int IntKind.i64 (bucketF r), Value.int IntKind.i64 h]) := by
      simp only [rdS, rdN_heap, heap_new _ _ _ rfl, Nat.one_mul]
      rw [if_neg (by omega), rdO_some _ _ _ _ _ (by simp [hks])]
      simp only [Nat.zero_add]
      rw [ext_all _ _ (by simp [hks])]
    have hs5 : (w4.alloc (Obj.cells (k ++ #[Value.int IntKind.i64 (bucketF r), Value.int IntKind.i64 h]).toList.toArray 49)).heap.size = w4.heap.size + 1 := size_alloc _ _
    clear hE5'
    generalize World.alloc _ _ = w5 at *
    refine appV_own hrow5 rfl hd5 hwf (by simp only [maxLen]; omega) (by omega) rfl (by omega) (by omega) ?_
    intro v6 w6 hrow6 hg6
    have hE6 := grown_ext hE5 hrow5 hg6 (Nat.le_refl _)
    have hp6 := hE6.at hp2' fun h => h
    have hq6 := hE6.at hp4' fun h => h
    have hEw := hE'.ext hE6
    refine ⟨one_row hrow6, wr1_of hp6 (by omega), ?_⟩
    have hlt6 := lt_of_heap hp6
    have hlq6 := lt_of_heap hq6
    have hp7 : (w6.setCell ⟨w.heap.size, 312, none⟩ v6).heap[w.heap.size]? = some (.cells (refC rc v6) 31 (0, 0)) := by
      rw [heap_setCell_eq hp6, refC_setv hl.symm]
    have hq7 : (w6.setCell ⟨w.heap.size, 312, none⟩ v6).heap[w.heap.size + 1 + 1]? = some (.cells (zc [(312, Value.int IntKind.i64 0), (1, Value.slice none 0 0)]) 31 (0, 0)) := by
      rw [heap_setCell_ne _ _ _ _ _ _ (by omega)]; exact hq6
    have hE7 : Ext w (w6.setCell ⟨w.heap.size, 312, none⟩ v6) := by (repeat' first | exact Keep.refl _ _ | assumption | refine Keep.drew ?_ | refine Keep.alloc ?_ _ | refine Keep.putN ?_ _ ?_ | refine Keep.setCell ?_ _ ?_ | refine Keep.setO ?_ _ ?_ | exact fun _ => Or.inl rfl | exact fun _ => Or.inr rfl | exact fun _ => rfl | (intro hh; exfalso; ((try simp only [vcS] at hh) <;> omega)))
    have hK7 : Keep (fun i => i = w.heap.size) w6 (w6.setCell ⟨w.heap.size, 312, none⟩ v6) := by (repeat' first | exact Keep.refl _ _ | assumption | refine Keep.drew ?_ | refine Keep.alloc ?_ _ | refine Keep.putN ?_ _ ?_ | refine Keep.setCell ?_ _ ?_ | refine Keep.setO ?_ _ ?_ | exact fun _ => Or.inl rfl | exact fun _ => Or.inr rfl | exact fun _ => rfl | (intro hh; exfalso; ((try simp only [vcS] at hh) <;> omega)))
    have hrow7 := ownsRow_keep hrow6 hK7 fun b hb (h : b = w.heap.size) => by have := own_block hrow6 hb; omega
    have hsz6 : (refC rc v6).size = 313 := by rw [size_refC, hl]
    have hf6 := refC_flat (rc := rc) (one_row hrow6)
    generalize World.setCell w6 _ _ = w7 at *
    (refine W_at c26_ok ?_; refine ⟨_, rfl, ?_⟩; simp (disch := first | omega | assumption | rfl | (simp only [vcS] <;> omega) | fail) only [↓ptV_l, ↓vcA, vcB, ↓vcD, vcE, ↓reduceIte, Nat.reduceEqDiff, Nat.reduceAdd, Nat.reduceMul, Nat.reduceLeDiff, Int.reduceLE, Int.reduceLT, Int.reduceEq, Int.reduceToNat, Int.reduceAdd, Int.reduceSub, Int.reduceMul, Int.reduceNeg, reduceCtorEq, Option.bind_some, Option.map_some, List.length_cons, List.length_nil, vcM, List.getElem?_toArray, List.getElem?_cons_zero, List.getElem?_cons_succ, hp7, hq7, hz, hsz6, ext_all])
    refine ⟨hf6, ?_⟩
    have hq8 : (w7.putN (w.heap.size + 1 + 1) 0 (refC rc v6)).heap[w.heap.size + 1 + 1]? = some (.cells (refC rc v6) 31 (0, 0)) := by
      rw [heap_putN_eq hq7, splice_all (by rw [hsz6, hz])]
    (refine W_at c26_ok ?_; refine ⟨_, rfl, ?_⟩; simp (disch := first | omega | assumption | rfl | (simp only [vcS] <;> omega) | fail) only [↓ptV_l, ↓vcA, vcB, ↓vcD, vcE, ↓reduceIte, Nat.reduceEqDiff, Nat.reduceAdd, Nat.reduceMul, Nat.reduceLeDiff, Int.reduceLE, Int.reduceLT, Int.reduceEq, Int.reduceToNat, Int.reduceAdd, Int.reduceSub, Int.reduceMul, Int.reduceNeg, reduceCtorEq, Option.bind_some, Option.map_some, List.length_cons, List.length_nil, vcM, List.getElem?_toArray, List.getElem?_cons_zero, List.getElem?_cons_succ, hq8, ext_all, hsz6, Ret_returned])
    have e1 : entW k (bucketF r) h ws = ws ++ [(k, (bucketF r : Int), h)] := by simp only [entW, hq, addW]
    refine ⟨v6, rfl, ⟨?_, by rw [e1]; exact HKs_add hr.2 hk⟩, by (repeat' first | exact Keep.refl _ _ | assumption | refine Keep.drew ?_ | refine Keep.alloc ?_ _ | refine Keep.putN ?_ _ ?_ | refine Keep.setCell ?_ _ ?_ | refine Keep.setO ?_ _ ?_ | exact fun _ => Or.inl rfl | exact fun _ => Or.inr rfl | exact fun _ => rfl | (intro hh; exfalso; ((try simp only [vcS] at hh) <;> omega)))⟩
    have hK8 : Keep (fun i => i = w.heap.size + 1 + 1) w7 (w7.putN (w.heap.size + 1 + 1) 0 (refC rc v6)) := by (repeat' first | exact Keep.refl _ _ | assumption | refine Keep.drew ?_ | refine Keep.alloc ?_ _ | refine Keep.putN ?_ _ ?_ | refine Keep.setCell ?_ _ ?_ | refine Keep.setO ?_ _ ?_ | exact fun _ => Or.inl rfl | exact fun _ => Or.inr rfl | exact fun _ => rfl | (intro hh; exfalso; ((try simp only [vcS] at hh) <;> omega)))
    have hrow8 := own_base (ownsRow_keep hrow7 hK8 fun b hb (h : b = w.heap.size + 1 + 1) => by have := own_block hrow6 hb; omega) 0 (Nat.zero_le _)
    have e2 : (List.map wcell (entW k (bucketF r) h ws)).length = 0 + (ws.map wcell).length + 1 := by rw [e1]; simp
    have e3 : wcells (entW k (bucketF r) h ws) = [] ++ (wcells ws).toArray.toList ++ (k ++ #[Value.int IntKind.i64 (bucketF r), Value.int IntKind.i64 h]).toList := by
      rw [e1]; simp [wcells, wcell, List.flatMap_append, List.map_append]
    rw [e2, e3]; exact hrow8
end Go.Proofs
