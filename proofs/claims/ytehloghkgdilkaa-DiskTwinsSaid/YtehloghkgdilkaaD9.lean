/- The document's disk: 'settle', 'Sync', 'Crash'. -/
import Derived.Test.YtehloghkgdilkaaD8
set_option linter.unusedSimpArgs false
set_option linter.unusedVariables false
set_option linter.constructorNameAsVariable false
namespace Go.Proofs
open Go.Vc
set_option maxRecDepth 10000

theorem flat_set {size : Nat} {v : Value} : ∀ {ids : List (Array Value)} {e j : Nat} (_ : ∀ k ∈ ids, k.size = size) (_ : e < ids.length) (_ : j < size),
    (ids.set e ((ids[e]?.getD #[]).setIfInBounds j v)).flatMap Array.toList = (ids.flatMap Array.toList).set (e * size + j) v
  | [], e, j, _, h, _ => by simp at h
  | a :: ids, 0, j, hs, _, hj => by
    have ha : a.toList.length = size := by simpa using hs a (by simp)
    simp only [List.set_cons_zero, List.flatMap_cons, Nat.zero_mul, Nat.zero_add, List.getElem?_cons_zero, Option.getD_some, Array.toList_setIfInBounds]
    rw [List.set_append_left _ _ (by omega)]
  | a :: ids, e + 1, j, hs, he, hj => by
    have ha : a.toList.length = size := by simpa using hs a (by simp)
    have ih := flat_set (v := v) (ids := ids) (e := e) (j := j) (fun k hk => hs k (by simp [hk])) (by simpa using he) hj
    simp only [List.set_cons_succ, List.flatMap_cons, List.getElem?_cons_succ]
    rw [ih, List.set_append_right _ _ (by rw [ha, Nat.add_mul]; omega), ha]
    congr 2
    rw [Nat.add_mul]; omega
/-- A cell of an element is written. -/
theorem OwnO.setc {w : World} {base el size : Nat} {v : Value} {ids : List (Array Value)} (h : OwnO w base el size v ids) {e j : Nat} (he : e < ids.length) (hj : j < size) (x : Value) :
    ∃ g o cap, v = .slice (some ⟨g, o, none⟩) ids.length cap ∧ Go.Proofs.blk v g ∧ wr1 w g (o + e * size + j) ∧ OwnO (w.setCell ⟨g, o + e * size + j, none⟩ x) base el size v (ids.set e (ids[e].setIfInBounds j x)) := by
  have hid : ids[e]?.getD #[] = ids[e] := by rw [List.getElem?_eq_getElem he]; rfl
  obtain ⟨hs, ⟨rfl, rfl⟩ | ⟨g, o, cap, cur, rfl, hb, hg, hn, hcm, hle, htake⟩⟩ := h
  · simp at he
  · have h1 : (e + 1) * size ≤ ids.length * size := Nat.mul_le_mul_right _ he
    have h2 : ids.length * size ≤ cap * size := Nat.mul_le_mul_right _ hn
    rw [Nat.add_mul, Nat.one_mul] at h1
    refine ⟨g, o, cap, rfl, rfl, wr1_of hg (by omega), fun k hk => ?_, .inr ⟨g, o, cap, _, by rw [List.length_set], hb, heap_setCell_eq hg, by rw [List.length_set]; exact hn, hcm, by rw [Array.size_setIfInBounds]; exact hle, ?_⟩⟩
    · rcases List.mem_or_eq_of_mem_set hk with hk | rfl
      · exact hs k hk
      · rw [Array.size_setIfInBounds]; exact hs _ (List.getElem_mem he)
    · have hf := flat_set (v := x) hs he hj
      rw [hid] at hf
      rw [List.length_set, hf, Array.toList_setIfInBounds, ← htake, Nat.add_assoc, List.drop_set, if_neg (by omega), Nat.add_sub_cancel_left, List.take_set]
theorem tear_0 {s : Int → Sec} {x : Wr} : tearS s x 0 = s := by
  funext k
  unfold tearS setS
  split
  · rename_i h; rw [h]; simp
  · rfl
theorem tear_64 {s : Int → Sec} {x : Wr} (hx : x.2.length = 64) (hs : ∀ k, secOK (s k)) : tearS s x 64 = setS s x.1 x.2 := by
  unfold tearS
  rw [List.take_of_length_le (by omega), List.drop_eq_nil_of_le (by rw [(hs x.1).1]; omega), List.append_nil]
theorem tear_ok {s : Int → Sec} {x : Wr} {b : Nat} (hb : b ≤ 64) (hx : secOK x.2) (hs : ∀ k, secOK (s k)) : ∀ k, secOK (tearS s x b k) := fun k => by
  unfold tearS setS
  split
  · refine ⟨?_, byt_app (byt_take hx.2 _) (byt_drop (hs x.1).2 _)⟩
    rw [List.length_append, List.length_take, List.length_drop, hx.1, (hs x.1).1]; omega
  · exact hs k
theorem tear_step {n e j : Nat} {s : Int → Sec} {x : Wr} (he : e < n) (hxe : x.1 = (e : Int)) (hj : j < 64) (hx : x.2.length = 64) (hs : ∀ k, secOK (s k)) (h2 : e < (secs n (tearS s x j)).length) :
    (secs n (tearS s x j)).set e ((secs n (tearS s x j))[e].setIfInBounds j (.int .u8 (x.2[j]'(by omega)))) = secs n (tearS s x (j + 1)) := by
  apply List.ext_getElem
  · simp [secs]
  · intro k h3 h4
    have hB := secs_at n (tearS s x (j + 1)) h4
    have hA := secs_at n (tearS s x j) h2
    rw [List.getElem_set, hB]
    split
    · rename_i hek
      subst hek
      rw [hA]
      have e1 : ∀ t, tearS s x t ((e : Nat) : Int) = x.2.take t ++ (s x.1).drop t := fun t => by unfold tearS setS; rw [if_pos hxe.symm]
      rw [e1, e1]
      have hsl := (hs x.1).1
      apply Array.ext'
      simp only [Array.toList_setIfInBounds, bv_app]
      have e2 : x.2.take (j + 1) = x.2.take j ++ [x.2[j]'(by omega)] := by rw [List.take_add_one, List.getElem?_eq_getElem (by omega)]; rfl
      have e3 : (s x.1).drop j = ((s x.1)[j]'(by omega)) :: (s x.1).drop (j + 1) := List.drop_eq_getElem_cons (by omega)
      have e4 : (bv (x.2.take j)).length = j := by rw [bv_len, List.length_take]; omega
      rw [e2, e3, bv_app, List.set_append_right _ _ (by rw [e4]; exact Nat.le_refl _), e4, Nat.sub_self]
      simp only [bv, List.map_cons, List.map_nil, List.set_cons_zero, List.append_assoc, List.cons_append, List.nil_append]
    · rename_i hek
      rw [secs_at]
      have e1 : ∀ t, tearS s x t ((k : Nat) : Int) = s (k : Nat) := fun t => by unfold tearS setS; rw [if_neg (by rw [hxe]; omega)]
      rw [e1, e1]
/-- What the document has made safe behind k writes. -/
def stepF (s : Int → Sec) (l : List Wr) (n b k : Nat) : Int → Sec := if k ≤ n then settleF s (l.take k) else crashS s l n b
theorem step_succ {s : Int → Sec} {l : List Wr} {n b k : Nat} (hk : k < l.length) : stepF s l n b (k + 1) = if k < n then setS (stepF s l n b k) l[k].1 l[k].2 else if k = n then tearS (stepF s l n b k) l[k] b else stepF s l n b k := by
  unfold stepF
  by_cases h1 : k < n
  · rw [if_pos (by omega), if_pos h1, if_pos (by omega)]; exact settleF_succ _ _ hk
  · rw [if_neg (by omega), if_neg h1]
    by_cases h2 : k = n
    · subst h2
      rw [if_pos rfl, if_pos (Nat.le_refl _), crashS, List.drop_eq_getElem_cons hk]
    · rw [if_neg h2, if_neg (by omega)]
theorem step_all {s : Int → Sec} {l : List Wr} {n b : Nat} : stepF s l n b l.length = crashS s l n b := by
  unfold stepF
  split
  · rename_i h
    rw [crashS, List.drop_eq_nil_of_le h, List.take_of_length_le (Nat.le_refl _), List.take_of_length_le h]
  · rfl
theorem step_ok {s : Int → Sec} {l : List Wr} {n b : Nat} (hb : b ≤ 64) (hs : ∀ k, secOK (s k)) (hl : ∀ x ∈ l, secOK x.2) : ∀ k, k ≤ l.length → ∀ i, secOK (stepF s l n b k i)
  | 0, _, i => by unfold stepF; rw [if_pos (by omega)]; exact hs i
  | k + 1, hk, i => by
    have ih := step_ok (n := n) hb hs hl k (by omega)
    have hx := hl _ (List.getElem_mem (show k < l.length by omega))
    rw [step_succ (by omega)]
    split
    · unfold setS; split
      · exact hx
      · exact ih i
    · split
      · exact tear_ok hb hx ih i
      · exact ih i
def RTo (w w' : World) (d' : DS) (u : Value) : Prop := ∃ sv' qv', u = rv sv' qv' d' ∧ RD w' sv' qv' d' ∧ Ext w w'
set_option maxHeartbeats 3200000 in
theorem rsettle_ok (w : World) (sv qv : Value) (d : DS) (n b : Nat) (h : RD w sv qv d) (hd : d.Ok) (hn : n ≤ 1000001) (hb : b ≤ 64) :
    Calls Try.prog 39 #[rv sv qv d, .int .i64 (n : Nat), .int .i64 (b : Nat)] w (Ret fun u w' => RTo w w' { d with safe := crashS d.safe d.queue n b, queue := [] } u) := by
  refine calls_of_cfg c39_ok (Nat.le_of_ble_eq_true rfl) ?_
  simp only [argE_nil, argE_cons, Nat.reduceAdd, Nat.zero_add]
  have hz4 : zc [(2, Value.slice none 0 0), (1, .int .i64 0), (1, .bool false)] = #[.slice none 0 0, .slice none 0 0, .int .i64 0, .bool false] := rfl
  have hlq := h.queue.len
  rw [qlen] at hlq
  have hql := hd.len
  (refine W_at c39_ok ?_; refine ⟨_, rfl, ?_⟩; simp (disch := first | omega | assumption | rfl | (simp only [vcS] <;> omega) | fail) only [↓ptV_l, ↓vcA, vcB, ↓vcD, vcE, ↓reduceIte, Nat.reduceEqDiff, Nat.reduceAdd, Nat.reduceMul, Nat.reduceLeDiff, Int.reduceLE, Int.reduceLT, Int.reduceEq, Int.reduceToNat, Int.reduceAdd, Int.reduceSub, Int.reduceMul, Int.reduceNeg, reduceCtorEq, Option.bind_some, Option.map_some, List.length_cons, List.length_nil, vcM, List.getElem?_toArray, List.getElem?_cons_zero, List.getElem?_cons_succ, hz4])
  have hb1 : ((w.alloc (.cells (rv sv qv d).cells 30)).alloc (.cells #[.slice none 0 0, .slice none 0 0, .int .i64 0, .bool false] 30)).heap[w.heap.size]? = some (.cells (rcell sv qv d) 30 (0, 0)) := by
    rw [heap_old _ _ _ (by simp)]; exact rbox _
  have hb2 : ((w.alloc (.cells (rv sv qv d).cells 30)).alloc (.cells #[.slice none 0 0, .slice none 0 0, .int .i64 0, .bool false] 30)).heap[w.heap.size + 1]? = some (.cells #[.slice none 0 0, .slice none 0 0, .int .i64 0, .bool false] 30 (0, 0)) := heap_new _ _ _ (by simp)
  have hE : Ext w ((w.alloc (.cells (rv sv qv d).cells 30)).alloc (.cells #[.slice none 0 0, .slice none 0 0, .int .i64 0, .bool false] 30)) := ((Keep.refl _ w).alloc _).alloc _
  generalize World.alloc _ _ = w1 at hb1 hb2 hE ⊢
  have hn12 : w.heap.size ≠ w.heap.size + 1 := by omega
  generalize hp1 : w.heap.size = p1 at hb1 hb2 hn12 ⊢
  generalize hp2 : p1 + 1 = p2 at hb2 hn12 ⊢
  have g0 : (rcell sv qv d)[0]? = some sv := rfl
  have g1 : (rcell sv qv d)[1]? = some qv := rfl
  have hsn := secs_len d.n d.safe
  have hdn := hd.n
  obtain ⟨qs, cs, hse, hsc⟩ := h.safe.is
  rw [hsn] at hse hsc
  have g0' := g0.trans (congrArg some hse)
  have hA1 : ∀ o, (w1.alloc o).heap[p1]? = some (.cells (rcell sv qv d) 30 (0, 0)) := fun o => (show Ext w1 (w1.alloc o) from (Keep.refl _ w1).alloc o).at hb1 (fun h => h)
  (refine W_at c39_ok ?_; refine ⟨_, rfl, ?_⟩; simp (disch := first | omega | assumption | rfl | (simp only [vcS] <;> omega) | fail) only [↓ptV_l, ↓vcA, vcB, ↓vcD, vcE, ↓reduceIte, Nat.reduceEqDiff, Nat.reduceAdd, Nat.reduceMul, Nat.reduceLeDiff, Int.reduceLE, Int.reduceLT, Int.reduceEq, Int.reduceToNat, Int.reduceAdd, Int.reduceSub, Int.reduceMul, Int.reduceNeg, reduceCtorEq, Option.bind_some, Option.map_some, List.length_cons, List.length_nil, vcM, List.getElem?_toArray, List.getElem?_cons_zero, List.getElem?_cons_succ, hA1, g0'])
  have hEl : Ext w1 (w1.alloc (.cells [].toArray 47)) := (Keep.refl _ w1).alloc _
  have hO0 : OwnO (w1.alloc (.cells [].toArray 47)) p1 47 64 (.slice (some ⟨w1.heap.size, 0, none⟩) 0 0) [] :=
    ⟨fun _ h => (by cases h), .inr ⟨_, 0, 0, _, rfl, by have := (Array.getElem?_eq_some_iff.1 hb1).1; omega, heap_new _ _ _ rfl, Nat.le_refl _, Nat.zero_le _, by simp, by simp⟩⟩
  have hrs : rdS (w1.alloc (.cells [].toArray 47)) 64 (.slice qs d.n cs) = some ((secs d.n d.safe).flatMap Array.toList).toArray := by
    rw [← hse]; exact (h.safe.ext (hE.ext hEl)).rd
  refine appO2 (bytes := 64) (z := runs [(64, Value.int .u8 0)]) hO0 hrs hsn (secs_size hd.safe) secs_flat (by rw [List.length_nil]; omega) (by rw [List.length_nil]; omega) rfl (by have := (Array.getElem?_eq_some_iff.1 hb1).1; rw [size_alloc]; omega) (by omega) fun sv1 w2 k1 k2 k3 => ?_
  rw [List.nil_append] at k1
  have hE12 : Ext w1 w2 := hEl.trans k2 fun k hk e => by have e' : some w1.heap.size = some k := e; injection e' with e'; omega
  have hnb : ∀ g, blk sv1 g → w1.heap.size ≤ g := fun g hg => by
    rcases k3 g hg with h6 | h6
    · cases h6; exact Nat.le_refl _
    · rw [size_alloc] at h6; omega
  have hp2l : p2 < w1.heap.size := (Array.getElem?_eq_some_iff.1 hb2).1
  have hb1' := hE12.at hb1 (fun h => h)
  have hb2' := hE12.at hb2 (fun h => h)
  have hq2 := h.queue.ext (hE.ext hE12)
  have hE02 := hE.ext hE12
  first | (simp (disch := first | omega | assumption | rfl | (simp only [vcS] <;> omega) | fail) only [↓ptV_l, ↓vcA, vcB, ↓vcD, vcE, ↓reduceIte, Nat.reduceEqDiff, Nat.reduceAdd, Nat.reduceMul, Nat.reduceLeDiff, Int.reduceLE, Int.reduceLT, Int.reduceEq, Int.reduceToNat, Int.reduceAdd, Int.reduceSub, Int.reduceMul, Int.reduceNeg, reduceCtorEq, Option.bind_some, Option.map_some, List.length_cons, List.length_nil, vcM, List.getElem?_toArray, List.getElem?_cons_zero, List.getElem?_cons_succ]) | skip
  (refine W_at c39_ok ?_; refine ⟨_, rfl, ?_⟩; simp (disch := first | omega | assumption | rfl | (simp only [vcS] <;> omega) | fail) only [↓ptV_l, ↓vcA, vcB, ↓vcD, vcE, ↓reduceIte, Nat.reduceEqDiff, Nat.reduceAdd, Nat.reduceMul, Nat.reduceLeDiff, Int.reduceLE, Int.reduceLT, Int.reduceEq, Int.reduceToNat, Int.reduceAdd, Int.reduceSub, Int.reduceMul, Int.reduceNeg, reduceCtorEq, Option.bind_some, Option.map_some, List.length_cons, List.length_nil, vcM, List.getElem?_toArray, List.getElem?_cons_zero, List.getElem?_cons_succ])
  have hstep := fun k hk => step_ok (n := n) hb hd.safe (fun x hx => (hd.queue x hx).1) (l := d.queue) k hk
  have L : ∀ (k j : Nat) (wj : World), k + j = d.queue.length → Keep (blk sv1) w2 wj → OwnO wj p1 47 64 sv1 (secs d.n (stepF d.safe d.queue n b j)) →
      W Try.prog (Ret fun u w' => RTo w w' { d with safe := crashS d.safe d.queue n b, queue := [] } u) 39 22 [(1, .int .i64 (n : Nat)), (2, .int .i64 (b : Nat)), (3, .pointer (some ⟨p1, 0, none⟩)), (6, .pointer (some ⟨p2, 0, none⟩)), (7, sv1), (8, .int .i64 (j : Nat))] wj := by
    intro k
    induction k with
    | zero =>
      intro j wj hj hK hO
      have hlt : ¬ ((j : Nat) : Int) < (d.queue.length : Nat) := by omega
      obtain rfl : j = d.queue.length := by omega
      rw [step_all] at hO
      have hbj := hK.at hb1' (fun hg => by have := hnb _ hg; omega)
      have hb2j := hK.at hb2' (fun hg => by have := hnb _ hg; omega)
      have hEj : Ext w wj := hE02.trans hK fun k hk e => by have := hnb _ e; omega
      have hof : okO (some (.cells #[.slice none 0 0, .slice none 0 0, .int .i64 0, .bool false] 30 (0, 0))) 0 4 = True := by simp [okO]
      (refine W_at c39_ok ?_; refine ⟨_, rfl, ?_⟩; simp (disch := first | omega | assumption | rfl | (simp only [vcS] <;> omega) | fail) only [↓ptV_l, ↓vcA, vcB, ↓vcD, vcE, ↓reduceIte, Nat.reduceEqDiff, Nat.reduceAdd, Nat.reduceMul, Nat.reduceLeDiff, Int.reduceLE, Int.reduceLT, Int.reduceEq, Int.reduceToNat, Int.reduceAdd, Int.reduceSub, Int.reduceMul, Int.reduceNeg, reduceCtorEq, Option.bind_some, Option.map_some, List.length_cons, List.length_nil, vcM, List.getElem?_toArray, List.getElem?_cons_zero, List.getElem?_cons_succ, hbj, g1, hlq, hlt])
      (refine W_at c39_ok ?_; refine ⟨_, rfl, ?_⟩; simp (disch := first | omega | assumption | rfl | (simp only [vcS] <;> omega) | fail) only [↓ptV_l, ↓vcA, vcB, ↓vcD, vcE, ↓reduceIte, Nat.reduceEqDiff, Nat.reduceAdd, Nat.reduceMul, Nat.reduceLeDiff, Int.reduceLE, Int.reduceLT, Int.reduceEq, Int.reduceToNat, Int.reduceAdd, Int.reduceSub, Int.reduceMul, Int.reduceNeg, reduceCtorEq, Option.bind_some, Option.map_some, List.length_cons, List.length_nil, vcM, List.getElem?_toArray, List.getElem?_cons_zero, List.getElem?_cons_succ])
      (refine W_at c39_ok ?_; refine ⟨_, rfl, ?_⟩; simp (disch := first | omega | assumption | rfl | (simp only [vcS] <;> omega) | fail) only [↓ptV_l, ↓vcA, vcB, ↓vcD, vcE, ↓reduceIte, Nat.reduceEqDiff, Nat.reduceAdd, Nat.reduceMul, Nat.reduceLeDiff, Int.reduceLE, Int.reduceLT, Int.reduceEq, Int.reduceToNat, Int.reduceAdd, Int.reduceSub, Int.reduceMul, Int.reduceNeg, reduceCtorEq, Option.bind_some, Option.map_some, List.length_cons, List.length_nil, vcM, List.getElem?_toArray, List.getElem?_cons_zero, List.getElem?_cons_succ])
      refine ⟨hO.one, wr1_of hbj (by simp [rcell]), ?_⟩
      have q1 : (wj.setCell ⟨p1, 0, none⟩ sv1).heap[p1]? = some (.cells (rcell sv1 qv d) 30 (0, 0)) := by rw [heap_setCell_eq hbj, rc_set0]
      have r1 : Keep (fun k => k = p1) wj (wj.setCell ⟨p1, 0, none⟩ sv1) := (Keep.refl _ wj).setCell _ fun _ => rfl
      have t1 := r1.at hb2j (fun e => hn12 e.symm)
      generalize World.setCell _ _ _ = wa at q1 r1 t1 ⊢
      (refine W_at c39_ok ?_; refine ⟨_, rfl, ?_⟩; simp (disch := first | omega | assumption | rfl | (simp only [vcS] <;> omega) | fail) only [↓ptV_l, ↓vcA, vcB, ↓vcD, vcE, ↓reduceIte, Nat.reduceEqDiff, Nat.reduceAdd, Nat.reduceMul, Nat.reduceLeDiff, Int.reduceLE, Int.reduceLT, Int.reduceEq, Int.reduceToNat, Int.reduceAdd, Int.reduceSub, Int.reduceMul, Int.reduceNeg, reduceCtorEq, Option.bind_some, Option.map_some, List.length_cons, List.length_nil, vcM, List.getElem?_toArray, List.getElem?_cons_zero, List.getElem?_cons_succ])
      refine ⟨wr1_of q1 (by simp [rcell]), ?_⟩
      have q2 : (wa.setCell ⟨p1, 1, none⟩ (.slice none 0 0)).heap[p1]? = some (.cells (rcell sv1 (.slice none 0 0) d) 30 (0, 0)) := by rw [heap_setCell_eq q1, rc_set1]
      have r2 := r1.setCell (b := p1) (o := 1) (s := none) (.slice none 0 0) fun _ => rfl
      have t2 := r2.at hb2j (fun e => hn12 e.symm)
      generalize World.setCell _ _ _ = wb at q2 r2 t2 ⊢
      have x4 : (rcell sv1 (.slice none 0 0) d).extract 0 (0 + 4) = rcell sv1 (.slice none 0 0) d := rfl
      have s4 : (rcell sv1 (.slice none 0 0) d).size = 4 := rfl
      (refine W_at c39_ok ?_; refine ⟨_, rfl, ?_⟩; simp (disch := first | omega | assumption | rfl | (simp only [vcS] <;> omega) | fail) only [↓ptV_l, ↓vcA, vcB, ↓vcD, vcE, ↓reduceIte, Nat.reduceEqDiff, Nat.reduceAdd, Nat.reduceMul, Nat.reduceLeDiff, Int.reduceLE, Int.reduceLT, Int.reduceEq, Int.reduceToNat, Int.reduceAdd, Int.reduceSub, Int.reduceMul, Int.reduceNeg, reduceCtorEq, Option.bind_some, Option.map_some, List.length_cons, List.length_nil, vcM, List.getElem?_toArray, List.getElem?_cons_zero, List.getElem?_cons_succ, q2, t2, hof, x4, s4])
      refine ⟨rc_flat (w := w) hO.one rfl, ?_⟩
      have f2 : rdO (wb.putN p2 0 (rcell sv1 (.slice none 0 0) d)).heap[p2]? 0 4 = some (rcell sv1 (.slice none 0 0) d) := by
        rw [heap_putN_eq t2, splice_all (by simp [rcell])]
        exact rdO_all _ _ _ _ rfl
      have r3 : Keep (fun k => k = p1 ∨ k = p2) wj (wb.putN p2 0 (rcell sv1 (.slice none 0 0) d)) := (r2.mono (fun _ h => .inl h)).putN _ fun _ => .inr rfl
      (refine W_at c39_ok ?_; refine ⟨_, rfl, ?_⟩; simp (disch := first | omega | assumption | rfl | (simp only [vcS] <;> omega) | fail) only [↓ptV_l, ↓vcA, vcB, ↓vcD, vcE, ↓reduceIte, Nat.reduceEqDiff, Nat.reduceAdd, Nat.reduceMul, Nat.reduceLeDiff, Int.reduceLE, Int.reduceLT, Int.reduceEq, Int.reduceToNat, Int.reduceAdd, Int.reduceSub, Int.reduceMul, Int.reduceNeg, reduceCtorEq, Option.bind_some, Option.map_some, List.length_cons, List.length_nil, vcM, List.getElem?_toArray, List.getElem?_cons_zero, List.getElem?_cons_succ, f2, Ret_returned])
      refine ⟨sv1, .slice none 0 0, rfl, ⟨(hO.base (Nat.zero_le _)).keep r3 fun g hg e => ?_, OwnO.nil _ _ _ _⟩, hEj.trans r3 fun k hk e => by rcases e with e | e <;> omega⟩
      have := hnb _ hg
      rcases e with e | e <;> omega
    | succ k ih =>
      intro j wj hj hK hO
      have hlt : ((j : Nat) : Int) < (d.queue.length : Nat) := by omega
      have i2 : 0 ≤ ((j : Nat) : Int) ∧ ((j : Nat) : Int) < (d.queue.length : Nat) := by omega
      have hjl : j < d.queue.length := by omega
      have hbj := hK.at hb1' (fun hg => by have := hnb _ hg; omega)
      have hqj := hq2.keep hK fun g hg e => by
        obtain ⟨_, c, e'⟩ := h.queue.blk hg
        have := (Array.getElem?_eq_some_iff.1 e').1
        have := hnb _ e
        omega
      obtain ⟨g', o', cap', cur', hqe, hg', hrd'⟩ := hqj.at (j := j) (by rw [qlen]; exact hjl)
      rw [List.getElem_map] at hrd'
      rw [qlen] at hqe
      have hx := hd.queue _ (List.getElem_mem hjl)
      have h65 := wcell_size hx.1.1
      have hfl := wcell_flat d.queue[j]
      have hz65 : (zc [(1, Value.int .i64 0), (64, Value.int .u8 0)]).size = 65 := rfl
      have g1' := g1.trans (congrArg some hqe)
      (refine W_at c39_ok ?_; refine ⟨_, rfl, ?_⟩; simp (disch := first | omega | assumption | rfl | (simp only [vcS] <;> omega) | fail) only [↓ptV_l, ↓vcA, vcB, ↓vcD, vcE, ↓reduceIte, Nat.reduceEqDiff, Nat.reduceAdd, Nat.reduceMul, Nat.reduceLeDiff, Int.reduceLE, Int.reduceLT, Int.reduceEq, Int.reduceToNat, Int.reduceAdd, Int.reduceSub, Int.reduceMul, Int.reduceNeg, reduceCtorEq, Option.bind_some, Option.map_some, List.length_cons, List.length_nil, vcM, List.getElem?_toArray, List.getElem?_cons_zero, List.getElem?_cons_succ, hbj, g1', hlt])
      (refine W_at c39_ok ?_; refine ⟨_, rfl, ?_⟩; simp (disch := first | omega | assumption | rfl | (simp only [vcS] <;> omega) | fail) only [↓ptV_l, ↓vcA, vcB, ↓vcD, vcE, ↓reduceIte, Nat.reduceEqDiff, Nat.reduceAdd, Nat.reduceMul, Nat.reduceLeDiff, Int.reduceLE, Int.reduceLT, Int.reduceEq, Int.reduceToNat, Int.reduceAdd, Int.reduceSub, Int.reduceMul, Int.reduceNeg, reduceCtorEq, Option.bind_some, Option.map_some, List.length_cons, List.length_nil, vcM, List.getElem?_toArray, List.getElem?_cons_zero, List.getElem?_cons_succ])
      (refine W_at c39_ok ?_; refine ⟨_, rfl, ?_⟩; simp (disch := first | omega | assumption | rfl | (simp only [vcS] <;> omega) | fail) only [↓ptV_l, ↓vcA, vcB, ↓vcD, vcE, ↓reduceIte, Nat.reduceEqDiff, Nat.reduceAdd, Nat.reduceMul, Nat.reduceLeDiff, Int.reduceLE, Int.reduceLT, Int.reduceEq, Int.reduceToNat, Int.reduceAdd, Int.reduceSub, Int.reduceMul, Int.reduceNeg, reduceCtorEq, Option.bind_some, Option.map_some, List.length_cons, List.length_nil, vcM, List.getElem?_toArray, List.getElem?_cons_zero, List.getElem?_cons_succ, hbj, g1', i2, Int.toNat_natCast, hrd', h65])
      refine ⟨hfl, ?_⟩
      have hb9 : ((wj.alloc (.cells (zc [(1, .int .i64 0), (64, .int .u8 0)]) 49)).putN wj.heap.size 0 (wcell d.queue[j])).heap[wj.heap.size]? = some (.cells (wcell d.queue[j]) 49 (0, 0)) := by
        rw [heap_putN_eq (heap_new _ _ _ rfl), splice_all (by rw [hz65, h65])]
      have hE9 : Ext wj ((wj.alloc (.cells (zc [(1, .int .i64 0), (64, .int .u8 0)]) 49)).putN wj.heap.size 0 (wcell d.queue[j])) := ((Keep.refl _ wj).alloc _).putN _ (by intro hh; exfalso; omega)
      generalize World.putN _ _ _ _ = w9 at hb9 hE9 ⊢
      generalize hb9n : wj.heap.size = b9 at hb9 ⊢
      have hK9 : Keep (blk sv1) w2 w9 := hK.ext hE9
      have hO9 := hO.ext hE9
      have hne9 : ∀ g, blk sv1 g → g ≠ b9 := fun g hg e => by
        obtain ⟨_, c, e'⟩ := hO.blk hg
        have := (Array.getElem?_eq_some_iff.1 e').1
        omega
      -- so many bytes
      have inner : ∀ (m : Nat) (mi : Int) (tl : Env), mi = (m : Nat) → m ≤ 64 → stepF d.safe d.queue n b (j + 1) = tearS (stepF d.safe d.queue n b j) d.queue[j] m →
          W Try.prog (Ret fun u w' => RTo w w' { d with safe := crashS d.safe d.queue n b, queue := [] } u) 39 12 ((1, .int .i64 (n : Nat)) :: (2, .int .i64 (b : Nat)) :: (3, .pointer (some ⟨p1, 0, none⟩)) :: (6, .pointer (some ⟨p2, 0, none⟩)) :: (7, sv1) :: (8, .int .i64 (j : Nat)) :: (9, .pointer (some ⟨b9, 0, none⟩)) :: (10, .int .i64 mi) :: tl) w9 := by
        intro m mi tl hmi hm hst
        subst hmi
        have J : ∀ (k2 t : Nat) (wt : World), k2 + t = m → Keep (blk sv1) w9 wt → OwnO wt p1 47 64 sv1 (secs d.n (tearS (stepF d.safe d.queue n b j) d.queue[j] t)) →
            W Try.prog (Ret fun u w' => RTo w w' { d with safe := crashS d.safe d.queue n b, queue := [] } u) 39 11 [(1, .int .i64 (n : Nat)), (2, .int .i64 (b : Nat)), (3, .pointer (some ⟨p1, 0, none⟩)), (6, .pointer (some ⟨p2, 0, none⟩)), (7, sv1), (8, .int .i64 (j : Nat)), (9, .pointer (some ⟨b9, 0, none⟩)), (10, .int .i64 (m : Nat)), (11, .int .i64 (t : Nat))] wt := by
          intro k2
          induction k2 with
          | zero =>
            intro t wt ht hKt hOt
            obtain rfl : t = m := by omega
            have hlt2 : ¬ ((t : Nat) : Int) < (t : Nat) := by omega
            have hwj : IntKind.i64.wrap (((j : Nat) : Int) + 1) = ((j + 1 : Nat) : Int) := wrap_i64 (by omega) (by omega)
            (refine W_at c39_ok ?_; refine ⟨_, rfl, ?_⟩; simp (disch := first | omega | assumption | rfl | (simp only [vcS] <;> omega) | fail) only [↓ptV_l, ↓vcA, vcB, ↓vcD, vcE, ↓reduceIte, Nat.reduceEqDiff, Nat.reduceAdd, Nat.reduceMul, Nat.reduceLeDiff, Int.reduceLE, Int.reduceLT, Int.reduceEq, Int.reduceToNat, Int.reduceAdd, Int.reduceSub, Int.reduceMul, Int.reduceNeg, reduceCtorEq, Option.bind_some, Option.map_some, List.length_cons, List.length_nil, vcM, List.getElem?_toArray, List.getElem?_cons_zero, List.getElem?_cons_succ, hlt2])
            (refine W_at c39_ok ?_; refine ⟨_, rfl, ?_⟩; simp (disch := first | omega | assumption | rfl | (simp only [vcS] <;> omega) | fail) only [↓ptV_l, ↓vcA, vcB, ↓vcD, vcE, ↓reduceIte, Nat.reduceEqDiff, Nat.reduceAdd, Nat.reduceMul, Nat.reduceLeDiff, Int.reduceLE, Int.reduceLT, Int.reduceEq, Int.reduceToNat, Int.reduceAdd, Int.reduceSub, Int.reduceMul, Int.reduceNeg, reduceCtorEq, Option.bind_some, Option.map_some, List.length_cons, List.length_nil, vcM, List.getElem?_toArray, List.getElem?_cons_zero, List.getElem?_cons_succ])
            (refine W_at c39_ok ?_; refine ⟨_, rfl, ?_⟩; simp (disch := first | omega | assumption | rfl | (simp only [vcS] <;> omega) | fail) only [↓ptV_l, ↓vcA, vcB, ↓vcD, vcE, ↓reduceIte, Nat.reduceEqDiff, Nat.reduceAdd, Nat.reduceMul, Nat.reduceLeDiff, Int.reduceLE, Int.reduceLT, Int.reduceEq, Int.reduceToNat, Int.reduceAdd, Int.reduceSub, Int.reduceMul, Int.reduceNeg, reduceCtorEq, Option.bind_some, Option.map_some, List.length_cons, List.length_nil, vcM, List.getElem?_toArray, List.getElem?_cons_zero, List.getElem?_cons_succ, hwj])
            (refine W_at c39_ok ?_; refine ⟨_, rfl, ?_⟩; simp (disch := first | omega | assumption | rfl | (simp only [vcS] <;> omega) | fail) only [↓ptV_l, ↓vcA, vcB, ↓vcD, vcE, ↓reduceIte, Nat.reduceEqDiff, Nat.reduceAdd, Nat.reduceMul, Nat.reduceLeDiff, Int.reduceLE, Int.reduceLT, Int.reduceEq, Int.reduceToNat, Int.reduceAdd, Int.reduceSub, Int.reduceMul, Int.reduceNeg, reduceCtorEq, Option.bind_some, Option.map_some, List.length_cons, List.length_nil, vcM, List.getElem?_toArray, List.getElem?_cons_zero, List.getElem?_cons_succ])
            exact ih (j + 1) wt (by omega) (hK9.trans hKt fun _ _ h => h) (by rw [hst]; exact hOt)
          | succ k2 ih2 =>
            intro t wt ht hKt hOt
            have hlt2 : ((t : Nat) : Int) < (m : Nat) := by omega
            have hwt : IntKind.i64.wrap (((t : Nat) : Int) + 1) = ((t + 1 : Nat) : Int) := wrap_i64 (by omega) (by omega)
            have hb9t := hKt.at hb9 (fun hg => hne9 _ hg rfl)
            obtain ⟨e, he⟩ : ∃ e : Nat, d.queue[j].1 = e := ⟨d.queue[j].1.toNat, by omega⟩
            have hen : e < d.n := by omega
            have hlen2 := secs_len d.n (tearS (stepF d.safe d.queue n b j) d.queue[j] t)
            obtain ⟨g, o, cap, hsv, hbg, hwr, hOn⟩ := (hOt.ext (show Ext wt wt.drew from (Keep.refl _ wt).drew)).setc (e := e) (j := t) (by rw [hlen2]; exact hen) (by omega) (.int .u8 (d.queue[j].2[t]'(by have := hx.1.1; omega)))
            rw [tear_step hen he (by omega) hx.1.1 (hstep j (by omega))] at hOn
            rw [hlen2] at hsv
            have ha0 : (wcell d.queue[j])[0]? = some (.int .i64 (e : Nat)) := by rw [wcell_at, he]
            have hat : (wcell d.queue[j])[1 + t]? = some (.int .u8 (d.queue[j].2[t]'(by have := hx.1.1; omega))) := by
              rw [Nat.add_comm]
              simp only [wcell, List.getElem?_toArray, List.getElem?_cons_succ]
              exact bv_get _
            have i3 : 0 ≤ ((t : Nat) : Int) ∧ ((t : Nat) : Int) < ((64 : Nat) : Int) := by omega
            have i3' : ((t : Nat) : Int) < 64 := by omega
            have i4' : ((e : Nat) : Int) < (d.n : Nat) := by omega
            have i4 : 0 ≤ ((e : Nat) : Int) ∧ ((e : Nat) : Int) < (d.n : Nat) := by omega
            (refine W_at c39_ok ?_; refine ⟨_, rfl, ?_⟩; simp (disch := first | omega | assumption | rfl | (simp only [vcS] <;> omega) | fail) only [↓ptV_l, ↓vcA, vcB, ↓vcD, vcE, ↓reduceIte, Nat.reduceEqDiff, Nat.reduceAdd, Nat.reduceMul, Nat.reduceLeDiff, Int.reduceLE, Int.reduceLT, Int.reduceEq, Int.reduceToNat, Int.reduceAdd, Int.reduceSub, Int.reduceMul, Int.reduceNeg, reduceCtorEq, Option.bind_some, Option.map_some, List.length_cons, List.length_nil, vcM, List.getElem?_toArray, List.getElem?_cons_zero, List.getElem?_cons_succ, hlt2])
            (refine W_at c39_ok ?_; refine ⟨_, rfl, ?_⟩; simp (disch := first | omega | assumption | rfl | (simp only [vcS] <;> omega) | fail) only [↓ptV_l, ↓vcA, vcB, ↓vcD, vcE, ↓reduceIte, Nat.reduceEqDiff, Nat.reduceAdd, Nat.reduceMul, Nat.reduceLeDiff, Int.reduceLE, Int.reduceLT, Int.reduceEq, Int.reduceToNat, Int.reduceAdd, Int.reduceSub, Int.reduceMul, Int.reduceNeg, reduceCtorEq, Option.bind_some, Option.map_some, List.length_cons, List.length_nil, vcM, List.getElem?_toArray, List.getElem?_cons_zero, List.getElem?_cons_succ])
            subst hsv
            (refine W_at c39_ok ?_; refine ⟨_, rfl, ?_⟩; simp (disch := first | omega | assumption | rfl | (simp only [vcS] <;> omega) | fail) only [↓ptV_l, ↓vcA, vcB, ↓vcD, vcE, ↓reduceIte, Nat.reduceEqDiff, Nat.reduceAdd, Nat.reduceMul, Nat.reduceLeDiff, Int.reduceLE, Int.reduceLT, Int.reduceEq, Int.reduceToNat, Int.reduceAdd, Int.reduceSub, Int.reduceMul, Int.reduceNeg, reduceCtorEq, Option.bind_some, Option.map_some, List.length_cons, List.length_nil, vcM, List.getElem?_toArray, List.getElem?_cons_zero, List.getElem?_cons_succ, hb9t, ha0, hat, i3, i3', i4, i4', Int.toNat_natCast, Nat.mul_one])
            refine ⟨hwr, ?_⟩
            have hks : Keep (blk (.slice (some ⟨g, o, none⟩) d.n cap)) wt (wt.drew.setCell ⟨g, o + e * 64 + t, none⟩ (.int .u8 (d.queue[j].2[t]'(by have := hx.1.1; omega)))) := (Keep.refl _ wt).drew.setCell _ fun _ => rfl
            generalize World.setCell _ _ _ = wn at hOn hks ⊢
            (refine W_at c39_ok ?_; refine ⟨_, rfl, ?_⟩; simp (disch := first | omega | assumption | rfl | (simp only [vcS] <;> omega) | fail) only [↓ptV_l, ↓vcA, vcB, ↓vcD, vcE, ↓reduceIte, Nat.reduceEqDiff, Nat.reduceAdd, Nat.reduceMul, Nat.reduceLeDiff, Int.reduceLE, Int.reduceLT, Int.reduceEq, Int.reduceToNat, Int.reduceAdd, Int.reduceSub, Int.reduceMul, Int.reduceNeg, reduceCtorEq, Option.bind_some, Option.map_some, List.length_cons, List.length_nil, vcM, List.getElem?_toArray, List.getElem?_cons_zero, List.getElem?_cons_succ, hwt])
            (refine W_at c39_ok ?_; refine ⟨_, rfl, ?_⟩; simp (disch := first | omega | assumption | rfl | (simp only [vcS] <;> omega) | fail) only [↓ptV_l, ↓vcA, vcB, ↓vcD, vcE, ↓reduceIte, Nat.reduceEqDiff, Nat.reduceAdd, Nat.reduceMul, Nat.reduceLeDiff, Int.reduceLE, Int.reduceLT, Int.reduceEq, Int.reduceToNat, Int.reduceAdd, Int.reduceSub, Int.reduceMul, Int.reduceNeg, reduceCtorEq, Option.bind_some, Option.map_some, List.length_cons, List.length_nil, vcM, List.getElem?_toArray, List.getElem?_cons_zero, List.getElem?_cons_succ])
            exact ih2 (t + 1) wn (by omega) (hKt.trans hks fun _ _ h => h) hOn
        have h0 : OwnO w9 p1 47 64 sv1 (secs d.n (tearS (stepF d.safe d.queue n b j) d.queue[j] 0)) := by rw [tear_0]; exact hO9
        (refine W_at c39_ok ?_; refine ⟨_, rfl, ?_⟩; simp (disch := first | omega | assumption | rfl | (simp only [vcS] <;> omega) | fail) only [↓ptV_l, ↓vcA, vcB, ↓vcD, vcE, ↓reduceIte, Nat.reduceEqDiff, Nat.reduceAdd, Nat.reduceMul, Nat.reduceLeDiff, Int.reduceLE, Int.reduceLT, Int.reduceEq, Int.reduceToNat, Int.reduceAdd, Int.reduceSub, Int.reduceMul, Int.reduceNeg, reduceCtorEq, Option.bind_some, Option.map_some, List.length_cons, List.length_nil, vcM, List.getElem?_toArray, List.getElem?_cons_zero, List.getElem?_cons_succ])
        exact J m 0 w9 (by omega) (Keep.refl _ w9) h0
      have hs := step_succ (s := d.safe) (n := n) (b := b) hjl
      (refine W_at c39_ok ?_; refine ⟨_, rfl, ?_⟩; simp (disch := first | omega | assumption | rfl | (simp only [vcS] <;> omega) | fail) only [↓ptV_l, ↓vcA, vcB, ↓vcD, vcE, ↓reduceIte, Nat.reduceEqDiff, Nat.reduceAdd, Nat.reduceMul, Nat.reduceLeDiff, Int.reduceLE, Int.reduceLT, Int.reduceEq, Int.reduceToNat, Int.reduceAdd, Int.reduceSub, Int.reduceMul, Int.reduceNeg, reduceCtorEq, Option.bind_some, Option.map_some, List.length_cons, List.length_nil, vcM, List.getElem?_toArray, List.getElem?_cons_zero, List.getElem?_cons_succ])
      by_cases hjn : ((j : Nat) : Int) = (n : Nat)
      · have c2 : ¬ ((j : Nat) : Int) > (n : Nat) := by omega
        have hdj : decide (((j : Nat) : Int) = (n : Nat)) = true := decide_eq_true hjn
        rw [if_neg (by omega), if_pos (by omega)] at hs
        (refine W_at c39_ok ?_; refine ⟨_, rfl, ?_⟩; simp (disch := first | omega | assumption | rfl | (simp only [vcS] <;> omega) | fail) only [↓ptV_l, ↓vcA, vcB, ↓vcD, vcE, ↓reduceIte, Nat.reduceEqDiff, Nat.reduceAdd, Nat.reduceMul, Nat.reduceLeDiff, Int.reduceLE, Int.reduceLT, Int.reduceEq, Int.reduceToNat, Int.reduceAdd, Int.reduceSub, Int.reduceMul, Int.reduceNeg, reduceCtorEq, Option.bind_some, Option.map_some, List.length_cons, List.length_nil, vcM, List.getElem?_toArray, List.getElem?_cons_zero, List.getElem?_cons_succ, hdj])
        (refine W_at c39_ok ?_; refine ⟨_, rfl, ?_⟩; simp (disch := first | omega | assumption | rfl | (simp only [vcS] <;> omega) | fail) only [↓ptV_l, ↓vcA, vcB, ↓vcD, vcE, ↓reduceIte, Nat.reduceEqDiff, Nat.reduceAdd, Nat.reduceMul, Nat.reduceLeDiff, Int.reduceLE, Int.reduceLT, Int.reduceEq, Int.reduceToNat, Int.reduceAdd, Int.reduceSub, Int.reduceMul, Int.reduceNeg, reduceCtorEq, Option.bind_some, Option.map_some, List.length_cons, List.length_nil, vcM, List.getElem?_toArray, List.getElem?_cons_zero, List.getElem?_cons_succ])
        (refine W_at c39_ok ?_; refine ⟨_, rfl, ?_⟩; simp (disch := first | omega | assumption | rfl | (simp only [vcS] <;> omega) | fail) only [↓ptV_l, ↓vcA, vcB, ↓vcD, vcE, ↓reduceIte, Nat.reduceEqDiff, Nat.reduceAdd, Nat.reduceMul, Nat.reduceLeDiff, Int.reduceLE, Int.reduceLT, Int.reduceEq, Int.reduceToNat, Int.reduceAdd, Int.reduceSub, Int.reduceMul, Int.reduceNeg, reduceCtorEq, Option.bind_some, Option.map_some, List.length_cons, List.length_nil, vcM, List.getElem?_toArray, List.getElem?_cons_zero, List.getElem?_cons_succ])
        (refine W_at c39_ok ?_; refine ⟨_, rfl, ?_⟩; simp (disch := first | omega | assumption | rfl | (simp only [vcS] <;> omega) | fail) only [↓ptV_l, ↓vcA, vcB, ↓vcD, vcE, ↓reduceIte, Nat.reduceEqDiff, Nat.reduceAdd, Nat.reduceMul, Nat.reduceLeDiff, Int.reduceLE, Int.reduceLT, Int.reduceEq, Int.reduceToNat, Int.reduceAdd, Int.reduceSub, Int.reduceMul, Int.reduceNeg, reduceCtorEq, Option.bind_some, Option.map_some, List.length_cons, List.length_nil, vcM, List.getElem?_toArray, List.getElem?_cons_zero, List.getElem?_cons_succ, c2])
        (refine W_at c39_ok ?_; refine ⟨_, rfl, ?_⟩; simp (disch := first | omega | assumption | rfl | (simp only [vcS] <;> omega) | fail) only [↓ptV_l, ↓vcA, vcB, ↓vcD, vcE, ↓reduceIte, Nat.reduceEqDiff, Nat.reduceAdd, Nat.reduceMul, Nat.reduceLeDiff, Int.reduceLE, Int.reduceLT, Int.reduceEq, Int.reduceToNat, Int.reduceAdd, Int.reduceSub, Int.reduceMul, Int.reduceNeg, reduceCtorEq, Option.bind_some, Option.map_some, List.length_cons, List.length_nil, vcM, List.getElem?_toArray, List.getElem?_cons_zero, List.getElem?_cons_succ])
        exact inner b _ _ rfl hb hs
      · by_cases hgt : ((j : Nat) : Int) > (n : Nat)
        · rw [if_neg (by omega), if_neg (by omega)] at hs
          (refine W_at c39_ok ?_; refine ⟨_, rfl, ?_⟩; simp (disch := first | omega | assumption | rfl | (simp only [vcS] <;> omega) | fail) only [↓ptV_l, ↓vcA, vcB, ↓vcD, vcE, ↓reduceIte, Nat.reduceEqDiff, Nat.reduceAdd, Nat.reduceMul, Nat.reduceLeDiff, Int.reduceLE, Int.reduceLT, Int.reduceEq, Int.reduceToNat, Int.reduceAdd, Int.reduceSub, Int.reduceMul, Int.reduceNeg, reduceCtorEq, Option.bind_some, Option.map_some, List.length_cons, List.length_nil, vcM, List.getElem?_toArray, List.getElem?_cons_zero, List.getElem?_cons_succ, hjn])
          (refine W_at c39_ok ?_; refine ⟨_, rfl, ?_⟩; simp (disch := first | omega | assumption | rfl | (simp only [vcS] <;> omega) | fail) only [↓ptV_l, ↓vcA, vcB, ↓vcD, vcE, ↓reduceIte, Nat.reduceEqDiff, Nat.reduceAdd, Nat.reduceMul, Nat.reduceLeDiff, Int.reduceLE, Int.reduceLT, Int.reduceEq, Int.reduceToNat, Int.reduceAdd, Int.reduceSub, Int.reduceMul, Int.reduceNeg, reduceCtorEq, Option.bind_some, Option.map_some, List.length_cons, List.length_nil, vcM, List.getElem?_toArray, List.getElem?_cons_zero, List.getElem?_cons_succ])
          (refine W_at c39_ok ?_; refine ⟨_, rfl, ?_⟩; simp (disch := first | omega | assumption | rfl | (simp only [vcS] <;> omega) | fail) only [↓ptV_l, ↓vcA, vcB, ↓vcD, vcE, ↓reduceIte, Nat.reduceEqDiff, Nat.reduceAdd, Nat.reduceMul, Nat.reduceLeDiff, Int.reduceLE, Int.reduceLT, Int.reduceEq, Int.reduceToNat, Int.reduceAdd, Int.reduceSub, Int.reduceMul, Int.reduceNeg, reduceCtorEq, Option.bind_some, Option.map_some, List.length_cons, List.length_nil, vcM, List.getElem?_toArray, List.getElem?_cons_zero, List.getElem?_cons_succ, hgt])
          (refine W_at c39_ok ?_; refine ⟨_, rfl, ?_⟩; simp (disch := first | omega | assumption | rfl | (simp only [vcS] <;> omega) | fail) only [↓ptV_l, ↓vcA, vcB, ↓vcD, vcE, ↓reduceIte, Nat.reduceEqDiff, Nat.reduceAdd, Nat.reduceMul, Nat.reduceLeDiff, Int.reduceLE, Int.reduceLT, Int.reduceEq, Int.reduceToNat, Int.reduceAdd, Int.reduceSub, Int.reduceMul, Int.reduceNeg, reduceCtorEq, Option.bind_some, Option.map_some, List.length_cons, List.length_nil, vcM, List.getElem?_toArray, List.getElem?_cons_zero, List.getElem?_cons_succ])
          (refine W_at c39_ok ?_; refine ⟨_, rfl, ?_⟩; simp (disch := first | omega | assumption | rfl | (simp only [vcS] <;> omega) | fail) only [↓ptV_l, ↓vcA, vcB, ↓vcD, vcE, ↓reduceIte, Nat.reduceEqDiff, Nat.reduceAdd, Nat.reduceMul, Nat.reduceLeDiff, Int.reduceLE, Int.reduceLT, Int.reduceEq, Int.reduceToNat, Int.reduceAdd, Int.reduceSub, Int.reduceMul, Int.reduceNeg, reduceCtorEq, Option.bind_some, Option.map_some, List.length_cons, List.length_nil, vcM, List.getElem?_toArray, List.getElem?_cons_zero, List.getElem?_cons_succ])
          exact inner 0 _ _ rfl (by omega) (by rw [hs, tear_0])
        · rw [if_pos (by omega)] at hs
          (refine W_at c39_ok ?_; refine ⟨_, rfl, ?_⟩; simp (disch := first | omega | assumption | rfl | (simp only [vcS] <;> omega) | fail) only [↓ptV_l, ↓vcA, vcB, ↓vcD, vcE, ↓reduceIte, Nat.reduceEqDiff, Nat.reduceAdd, Nat.reduceMul, Nat.reduceLeDiff, Int.reduceLE, Int.reduceLT, Int.reduceEq, Int.reduceToNat, Int.reduceAdd, Int.reduceSub, Int.reduceMul, Int.reduceNeg, reduceCtorEq, Option.bind_some, Option.map_some, List.length_cons, List.length_nil, vcM, List.getElem?_toArray, List.getElem?_cons_zero, List.getElem?_cons_succ, hjn])
          (refine W_at c39_ok ?_; refine ⟨_, rfl, ?_⟩; simp (disch := first | omega | assumption | rfl | (simp only [vcS] <;> omega) | fail) only [↓ptV_l, ↓vcA, vcB, ↓vcD, vcE, ↓reduceIte, Nat.reduceEqDiff, Nat.reduceAdd, Nat.reduceMul, Nat.reduceLeDiff, Int.reduceLE, Int.reduceLT, Int.reduceEq, Int.reduceToNat, Int.reduceAdd, Int.reduceSub, Int.reduceMul, Int.reduceNeg, reduceCtorEq, Option.bind_some, Option.map_some, List.length_cons, List.length_nil, vcM, List.getElem?_toArray, List.getElem?_cons_zero, List.getElem?_cons_succ])
          (refine W_at c39_ok ?_; refine ⟨_, rfl, ?_⟩; simp (disch := first | omega | assumption | rfl | (simp only [vcS] <;> omega) | fail) only [↓ptV_l, ↓vcA, vcB, ↓vcD, vcE, ↓reduceIte, Nat.reduceEqDiff, Nat.reduceAdd, Nat.reduceMul, Nat.reduceLeDiff, Int.reduceLE, Int.reduceLT, Int.reduceEq, Int.reduceToNat, Int.reduceAdd, Int.reduceSub, Int.reduceMul, Int.reduceNeg, reduceCtorEq, Option.bind_some, Option.map_some, List.length_cons, List.length_nil, vcM, List.getElem?_toArray, List.getElem?_cons_zero, List.getElem?_cons_succ, hgt])
          (refine W_at c39_ok ?_; refine ⟨_, rfl, ?_⟩; simp (disch := first | omega | assumption | rfl | (simp only [vcS] <;> omega) | fail) only [↓ptV_l, ↓vcA, vcB, ↓vcD, vcE, ↓reduceIte, Nat.reduceEqDiff, Nat.reduceAdd, Nat.reduceMul, Nat.reduceLeDiff, Int.reduceLE, Int.reduceLT, Int.reduceEq, Int.reduceToNat, Int.reduceAdd, Int.reduceSub, Int.reduceMul, Int.reduceNeg, reduceCtorEq, Option.bind_some, Option.map_some, List.length_cons, List.length_nil, vcM, List.getElem?_toArray, List.getElem?_cons_zero, List.getElem?_cons_succ])
          refine inner 64 _ _ rfl (Nat.le_refl _) ?_
          rw [hs, tear_64 hx.1.1 (hstep j (by omega))]
  exact L d.queue.length 0 w2 (by omega) (Keep.refl _ w2) (by unfold stepF; rw [if_pos (Nat.zero_le _)]; exact k1)
end Go.Proofs
