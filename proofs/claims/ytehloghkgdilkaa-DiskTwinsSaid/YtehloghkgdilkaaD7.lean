/- The document's disk: rows of rows; 'New', 'there', 'Read', 'call', 'Arm'. -/
import Derived.Test.YtehloghkgdilkaaD6
set_option linter.unusedSimpArgs false
set_option linter.unusedVariables false
set_option linter.constructorNameAsVariable false
namespace Go.Proofs
open Go.Vc
set_option maxRecDepth 10000

/-- 'append' of a row. -/
theorem appO2 {w : World} {base el size bytes : Nat} {z : List Value} {v : Value} {ids ids2 : List (Array Value)} {q : Option Addr} {m c2 : Nat} {K : Value → World → Prop} (h : OwnO w base el size v ids)
    (hr : rdS w size (.slice q m c2) = some (ids2.flatMap Array.toList).toArray) (hm : ids2.length = m) (hs2 : ∀ k ∈ ids2, k.size = size) (hf : ∀ k ∈ ids2, flat k)
    (hlen : ids.length + m ≤ 1000000000) (hb : (ids.length + m) * bytes ≤ 140737488355328) (hz : z.length = size) (hbase : base ≤ w.heap.size) (hs : 0 < size)
    (hk : ∀ v' w', OwnO w' base el size v' (ids ++ ids2) → Keep (Go.Proofs.blk v) w w' → (∀ g, Go.Proofs.blk v' g → Go.Proofs.blk v g ∨ w.heap.size ≤ g) → K v' w') :
    appV el size bytes z v (.slice q m c2) w K := by
  have hml : maxLen = 9223372036854775807 := rfl
  have hs3 : ∀ k ∈ ids ++ ids2, k.size = size := fun k hk => by
    rcases List.mem_append.1 hk with hk | hk
    · exact h.sz k hk
    · exact hs2 k hk
  have hfl : (ids ++ ids2).flatMap Array.toList = ids.flatMap Array.toList ++ ids2.flatMap Array.toList := by simp
  have hfll : (ids.flatMap Array.toList).length = ids.length * size := flat_len h.sz
  have hfl2 : (ids2.flatMap Array.toList).length = m * size := by rw [flat_len hs2, hm]
  have hro := h.rd
  have hl2 : (ids ++ ids2).length = ids.length + m := by rw [List.length_append, hm]
  have hmul : (ids.length + m) * size = ids.length * size + m * size := Nat.add_mul _ _ _
  have grow : ∀ c', ids.length + m ≤ c' → c' ≤ maxLen → K (.slice (some ⟨w.heap.size, 0, none⟩) (ids.length + m) c')
      (w.drew.alloc (.cells (ids.flatMap Array.toList ++ ids2.flatMap Array.toList ++ zrep (c' - (ids.length + m)) z).toArray el)) := by
    intro c' h1 h2
    refine hk _ _ ⟨hs3, .inr ⟨_, 0, c', _, by rw [hl2], hbase, heap_new w.drew _ _ rfl, by rw [hl2]; exact h1, h2, ?_, ?_⟩⟩ ?_ ?_
    · simp only [List.size_toArray, List.length_append, hfll, hfl2, length_zrep, hz]
      rw [Nat.zero_add, ← hmul, ← Nat.add_mul]
      exact Nat.mul_le_mul_right _ (by omega)
    · rw [hl2, List.drop_zero, hfl]
      rw [List.take_left']
      rw [List.length_append, hfll, hfl2, hmul]
    · exact ((Keep.refl _ w).drew).alloc _
    · intro g hg; cases hg; exact .inr (Nat.le_refl _)
  have keep0 : ∀ (q : Option Addr) (c : Nat), v = .slice q ids.length c → m * size = 0 → K (.slice q (ids.length + m) c) w := by
    intro q c hv h0
    have hm0 : m = 0 := by rcases Nat.mul_eq_zero.1 h0 with h | h; exact h; omega
    subst hm0
    have : ids2 = [] := List.eq_nil_of_length_eq_zero hm
    subst this
    rw [Nat.add_zero, ← hv]
    refine hk v w ?_ (Keep.refl _ w) fun g hg => .inl hg
    rw [List.append_nil]; exact h
  unfold appV
  obtain ⟨q', c, rfl, hcap⟩ := h.is
  simp only [hro, hr, getV_some]
  refine ⟨flat_flat hf, by omega, hb, hz, fun hc' => ⟨fun h0 => keep0 _ _ rfl h0, fun h0 b o' hp => ?_⟩, fun hc' h0 => ?_, fun _ => grow⟩
  · subst hp
    obtain ⟨_, ⟨e, _⟩ | ⟨g, o, cap, cur, e, hbg, hg, hn, hcm, hle, htake⟩⟩ := h
    · cases e
    · injection e with e1 e2 e3
      injection e1 with e1
      injection e1 with e4 e5
      subst e3 e4 e5
      have e6 : (ids.length + m) * size ≤ c * size := Nat.mul_le_mul_right _ hc'
      rw [hmul] at e6
      refine ⟨okN_of hg (by omega), hk _ _ ⟨hs3, .inr ⟨_, _, c, _, by rw [hl2], hbg, heap_putN_eq hg, by rw [hl2]; exact hc', hcm, ?_, ?_⟩⟩ ?_ fun g' hg' => .inl hg'⟩
      · simp only [spliceA, List.size_toArray, List.length_append, List.length_take, List.length_drop, Array.length_toList (xs := cur), hfl2]
        omega
      · rw [hl2, hfl, ← htake]
        simp only [spliceA]
        rw [hmul]
        have hlen1 : (cur.toList.take (o' + ids.length * size)).length = o' + ids.length * size := by rw [List.length_take, Array.length_toList (xs := cur)]; omega
        rw [List.append_assoc, List.drop_append_of_le_length (by rw [hlen1]; omega), List.drop_take, Nat.add_sub_cancel_left]
        have hlen2 : ((cur.toList.drop o').take (ids.length * size)).length = ids.length * size := by rw [htake, hfll]
        rw [List.take_append, hlen2, List.take_of_length_le (by rw [hlen2]; omega), Nat.add_sub_cancel_left, List.take_left' hfl2]
      · exact (Keep.refl _ w).putN _ fun _ => rfl
  · obtain ⟨_, ⟨e, _⟩ | ⟨g, o, cap, cur, e, _⟩⟩ := h
    · injection e with e1 e2 e3
      subst e3
      exfalso
      have hm0 : m = 0 := by omega
      rw [hm0, Nat.zero_mul] at h0
      exact h0 rfl
    · injection e with e1
      exact ⟨_, _, e1⟩
def secs (n : Nat) (s : Int → Sec) : List (Array Value) := (List.range n).map fun k => (bv (s (k : Nat))).toArray
theorem secs_len (n : Nat) (s : Int → Sec) : (secs n s).length = n := by simp [secs]
theorem secs_at (n : Nat) (s : Int → Sec) {k : Nat} (h : k < (secs n s).length) : (secs n s)[k] = (bv (s (k : Nat))).toArray := by simp [secs]
theorem secs_size {n : Nat} {s : Int → Sec} (h : ∀ k, secOK (s k)) : ∀ k ∈ secs n s, k.size = 64 := fun k hk => by
  obtain ⟨j, _, rfl⟩ := List.mem_map.1 hk
  simp [bv_len, (h j).1]
theorem secs_flat {n : Nat} {s : Int → Sec} : ∀ k ∈ secs n s, flat k := fun k hk => by
  obtain ⟨j, _, rfl⟩ := List.mem_map.1 hk
  exact bv_flat _
/-- The document's. -/
structure RD (w : World) (sv qv : Value) (d : DS) : Prop where
  safe : OwnO w 0 47 64 sv (secs d.n d.safe)
  queue : OwnO w 0 49 65 qv (d.queue.map wcell)
theorem RD.keep {S : Nat → Prop} {w w' : World} {sv qv : Value} {d : DS} (h : RD w sv qv d) (k : Keep S w w') (hS : ∀ g c t, w.heap[g]? = some (.cells c t (0, 0)) → (t = 47 ∨ t = 49) → ¬ S g) : RD w' sv qv d :=
  ⟨h.safe.keep k fun g hg => (by obtain ⟨_, c, e⟩ := h.safe.blk hg; exact hS g _ _ e (.inl rfl)), h.queue.keep k fun g hg => by obtain ⟨_, c, e⟩ := h.queue.blk hg; exact hS g _ _ e (.inr rfl)⟩
theorem RD.ext {w w' : World} {sv qv : Value} {d : DS} (h : RD w sv qv d) (k : Ext w w') : RD w' sv qv d := ⟨h.safe.ext k, h.queue.ext k⟩
def rcell (sv qv : Value) (d : DS) : Array Value := #[sv, qv, .int .i64 d.left, .bool d.dead]
def rv (sv qv : Value) (d : DS) : Value := .agg (rcell sv qv d)
theorem rv_cells (sv qv : Value) (d : DS) : (rv sv qv d).cells = rcell sv qv d := rfl
theorem zrep_secs (m : Nat) : zrep m (runs [(64, Value.int .u8 0)]) = (secs m fun _ => zsec).flatMap Array.toList := by
  have h : runs [(64, Value.int .u8 0)] = bv zsec := rfl
  rw [h]
  induction m with
  | zero => rfl
  | succ m ih =>
    have e : secs (m + 1) (fun _ => zsec) = secs m (fun _ => zsec) ++ [(bv zsec).toArray] := by simp [secs, List.range_succ]
    rw [e, List.flatMap_append, ← ih]
    simp [zrep, List.replicate_succ']
theorem rnew_ok (w : World) (n : Int) :
    Calls Try.prog 9 #[.int .i64 n] w (Ret fun u w' => ∃ sv, u = rv sv (.slice none 0 0) (newD n) ∧ RD w' sv (.slice none 0 0) (newD n) ∧ Ext w w') := by
  refine calls_of_cfg c9_ok (Nat.le_of_ble_eq_true rfl) ?_
  simp only [argE_nil, argE_cons, Nat.reduceAdd, Nat.zero_add]
  have hz4 : zc [(2, Value.slice none 0 0), (1, .int .i64 0), (1, .bool false)] = #[.slice none 0 0, .slice none 0 0, .int .i64 0, .bool false] := rfl
  have hzs : zc [(1, Value.slice none 0 0)] = #[.slice none 0 0] := rfl
  have hzb : zc [(1, Value.bool false)] = #[.bool false] := rfl
  (refine W_at c9_ok ?_; refine ⟨_, rfl, ?_⟩; simp (disch := first | omega | assumption | rfl | (simp only [vcS] <;> omega) | fail) only [↓ptV_l, ↓vcA, vcB, ↓vcD, vcE, ↓reduceIte, Nat.reduceEqDiff, Nat.reduceAdd, Nat.reduceMul, Nat.reduceLeDiff, Int.reduceLE, Int.reduceLT, Int.reduceEq, Int.reduceToNat, Int.reduceAdd, Int.reduceSub, Int.reduceMul, Int.reduceNeg, reduceCtorEq, Option.bind_some, Option.map_some, List.length_cons, List.length_nil, vcM, List.getElem?_toArray, List.getElem?_cons_zero, List.getElem?_cons_succ, hz4])
  have hE : Ext w (w.alloc (.cells #[.slice none 0 0, .slice none 0 0, .int .i64 0, .bool false] 30)) := (Keep.refl _ w).alloc _
  have h2 : (w.alloc (.cells #[.slice none 0 0, .slice none 0 0, .int .i64 0, .bool false] 30)).heap[w.heap.size]? = some (.cells #[.slice none 0 0, .slice none 0 0, .int .i64 0, .bool false] 30 (0, 0)) := heap_new _ _ _ rfl
  generalize hp2 : w.heap.size = p2 at h2 ⊢
  generalize World.alloc _ _ = w1 at h2 hE ⊢
  have fin : ∀ (m : Nat) (tl : Env), m ≤ 65536 → m = (newD n).n → W Try.prog (Ret fun u w' => ∃ sv, u = rv sv (.slice none 0 0) (newD n) ∧ RD w' sv (.slice none 0 0) (newD n) ∧ Ext w w') 9 2 ((0, .int .i64 (m : Nat)) :: (2, .pointer (some ⟨p2, 0, none⟩)) :: tl) w1 := by
    intro m tl hm hmn
    (refine W_at c9_ok ?_; refine ⟨_, rfl, ?_⟩; simp (disch := first | omega | assumption | rfl | (simp only [vcS] <;> omega) | fail) only [↓ptV_l, ↓vcA, vcB, ↓vcD, vcE, ↓reduceIte, Nat.reduceEqDiff, Nat.reduceAdd, Nat.reduceMul, Nat.reduceLeDiff, Int.reduceLE, Int.reduceLT, Int.reduceEq, Int.reduceToNat, Int.reduceAdd, Int.reduceSub, Int.reduceMul, Int.reduceNeg, reduceCtorEq, Option.bind_some, Option.map_some, List.length_cons, List.length_nil, vcM, List.getElem?_toArray, List.getElem?_cons_zero, List.getElem?_cons_succ])
    refine ⟨by omega, by omega, by omega, by omega, rfl, ?_⟩
    rw [Int.toNat_natCast]
    have hO : OwnO (w1.alloc (.cells (zrep m (runs [(64, .int .u8 0)])).toArray 47)) 0 47 64 (.slice (some ⟨w1.heap.size, 0, none⟩) m m) (secs m fun _ => zsec) := by
      have hl := secs_len m fun _ => zsec
      have hfl := flat_len (ids := secs m fun _ => zsec) (size := 64) (secs_size fun _ => zsec_ok)
      rw [hl] at hfl
      refine ⟨secs_size fun _ => zsec_ok, .inr ⟨_, 0, m, _, by rw [hl], Nat.zero_le _, heap_new _ _ _ rfl, by rw [hl]; exact Nat.le_refl _, by have : maxLen = 9223372036854775807 := rfl; omega, ?_, ?_⟩⟩
      · rw [zrep_secs, List.size_toArray, hfl]; omega
      · rw [zrep_secs, hl, List.drop_zero, List.take_of_length_le (by rw [hfl]; exact Nat.le_refl _)]
    have hE3 : Ext w1 (w1.alloc (.cells (zrep m (runs [(64, .int .u8 0)])).toArray 47)) := (Keep.refl _ w1).alloc _
    generalize World.alloc _ _ = w3 at hO hE3 ⊢
    generalize (Value.slice (some ⟨w1.heap.size, 0, none⟩) m m) = sv at hO ⊢
    have h23 := hE3.at h2 (fun h => h)
    have hc1 : sv.cells = #[sv] := by obtain ⟨q, c, rfl, _⟩ := hO.is; rfl
    have hsz : (#[sv] ++ (zc [(1, Value.slice none 0 0)] ++ (#[Value.int .i64 (-1)] ++ zc [(1, Value.bool false)])) : Array Value) = rcell sv (.slice none 0 0) (newD n) := rfl
    have hr4 : (rcell sv (.slice none 0 0) (newD n)).size = 4 := rfl
    have hof : okO (some (.cells #[.slice none 0 0, .slice none 0 0, .int .i64 0, .bool false] 30 (0, 0))) 0 4 = True := by simp [okO]
    simp (disch := first | omega | assumption | rfl | (simp only [vcS] <;> omega) | fail) only [↓ptV_l, ↓vcA, vcB, ↓vcD, vcE, ↓reduceIte, Nat.reduceEqDiff, Nat.reduceAdd, Nat.reduceMul, Nat.reduceLeDiff, Int.reduceLE, Int.reduceLT, Int.reduceEq, Int.reduceToNat, Int.reduceAdd, Int.reduceSub, Int.reduceMul, Int.reduceNeg, reduceCtorEq, Option.bind_some, Option.map_some, List.length_cons, List.length_nil, vcM, List.getElem?_toArray, List.getElem?_cons_zero, List.getElem?_cons_succ, hc1, hsz, hr4, h23, hof]
    refine ⟨by intro v hv; simp [rcell] at hv; rcases hv with rfl | rfl | rfl | rfl; exact hO.one; rfl; rfl; rfl, ?_⟩
    have h24 : (w3.putN p2 0 (rcell sv (.slice none 0 0) (newD n))).heap[p2]? = some (.cells (rcell sv (.slice none 0 0) (newD n)) 30 (0, 0)) := by rw [heap_putN_eq h23, splice_all (by simp [rcell])]
    have hk4 : Keep (fun k => k = p2) w3 (w3.putN p2 0 (rcell sv (.slice none 0 0) (newD n))) := (Keep.refl _ w3).putN _ fun _ => rfl
    have hx4 : (rcell sv (.slice none 0 0) (newD n)).extract 0 (0 + 4) = rcell sv (.slice none 0 0) (newD n) := rfl
    (refine W_at c9_ok ?_; refine ⟨_, rfl, ?_⟩; simp (disch := first | omega | assumption | rfl | (simp only [vcS] <;> omega) | fail) only [↓ptV_l, ↓vcA, vcB, ↓vcD, vcE, ↓reduceIte, Nat.reduceEqDiff, Nat.reduceAdd, Nat.reduceMul, Nat.reduceLeDiff, Int.reduceLE, Int.reduceLT, Int.reduceEq, Int.reduceToNat, Int.reduceAdd, Int.reduceSub, Int.reduceMul, Int.reduceNeg, reduceCtorEq, Option.bind_some, Option.map_some, List.length_cons, List.length_nil, vcM, List.getElem?_toArray, List.getElem?_cons_zero, List.getElem?_cons_succ, h24, hr4, hx4, Ret_returned])
    refine ⟨sv, rfl, ⟨?_, OwnO.nil _ _ _ _⟩, (hE.ext hE3).trans hk4 fun k hk e => by omega⟩
    have e : secs (newD n).n (newD n).safe = secs m fun _ => zsec := by rw [← hmn]; rfl
    rw [e]
    refine hO.keep hk4 fun g hg e => ?_
    subst e
    obtain ⟨_, c, e⟩ := hO.blk hg
    rw [h23] at e; cases e
  by_cases h0 : n < 0
  · have hm : (newD n).n = 0 := by simp only [newD]; omega
    have c1 : ¬ (0 : Int) > 65536 := by decide
    (refine W_at c9_ok ?_; refine ⟨_, rfl, ?_⟩; simp (disch := first | omega | assumption | rfl | (simp only [vcS] <;> omega) | fail) only [↓ptV_l, ↓vcA, vcB, ↓vcD, vcE, ↓reduceIte, Nat.reduceEqDiff, Nat.reduceAdd, Nat.reduceMul, Nat.reduceLeDiff, Int.reduceLE, Int.reduceLT, Int.reduceEq, Int.reduceToNat, Int.reduceAdd, Int.reduceSub, Int.reduceMul, Int.reduceNeg, reduceCtorEq, Option.bind_some, Option.map_some, List.length_cons, List.length_nil, vcM, List.getElem?_toArray, List.getElem?_cons_zero, List.getElem?_cons_succ, h0])
    (refine W_at c9_ok ?_; refine ⟨_, rfl, ?_⟩; simp (disch := first | omega | assumption | rfl | (simp only [vcS] <;> omega) | fail) only [↓ptV_l, ↓vcA, vcB, ↓vcD, vcE, ↓reduceIte, Nat.reduceEqDiff, Nat.reduceAdd, Nat.reduceMul, Nat.reduceLeDiff, Int.reduceLE, Int.reduceLT, Int.reduceEq, Int.reduceToNat, Int.reduceAdd, Int.reduceSub, Int.reduceMul, Int.reduceNeg, reduceCtorEq, Option.bind_some, Option.map_some, List.length_cons, List.length_nil, vcM, List.getElem?_toArray, List.getElem?_cons_zero, List.getElem?_cons_succ])
    (refine W_at c9_ok ?_; refine ⟨_, rfl, ?_⟩; simp (disch := first | omega | assumption | rfl | (simp only [vcS] <;> omega) | fail) only [↓ptV_l, ↓vcA, vcB, ↓vcD, vcE, ↓reduceIte, Nat.reduceEqDiff, Nat.reduceAdd, Nat.reduceMul, Nat.reduceLeDiff, Int.reduceLE, Int.reduceLT, Int.reduceEq, Int.reduceToNat, Int.reduceAdd, Int.reduceSub, Int.reduceMul, Int.reduceNeg, reduceCtorEq, Option.bind_some, Option.map_some, List.length_cons, List.length_nil, vcM, List.getElem?_toArray, List.getElem?_cons_zero, List.getElem?_cons_succ])
    (refine W_at c9_ok ?_; refine ⟨_, rfl, ?_⟩; simp (disch := first | omega | assumption | rfl | (simp only [vcS] <;> omega) | fail) only [↓ptV_l, ↓vcA, vcB, ↓vcD, vcE, ↓reduceIte, Nat.reduceEqDiff, Nat.reduceAdd, Nat.reduceMul, Nat.reduceLeDiff, Int.reduceLE, Int.reduceLT, Int.reduceEq, Int.reduceToNat, Int.reduceAdd, Int.reduceSub, Int.reduceMul, Int.reduceNeg, reduceCtorEq, Option.bind_some, Option.map_some, List.length_cons, List.length_nil, vcM, List.getElem?_toArray, List.getElem?_cons_zero, List.getElem?_cons_succ, c1])
    (refine W_at c9_ok ?_; refine ⟨_, rfl, ?_⟩; simp (disch := first | omega | assumption | rfl | (simp only [vcS] <;> omega) | fail) only [↓ptV_l, ↓vcA, vcB, ↓vcD, vcE, ↓reduceIte, Nat.reduceEqDiff, Nat.reduceAdd, Nat.reduceMul, Nat.reduceLeDiff, Int.reduceLE, Int.reduceLT, Int.reduceEq, Int.reduceToNat, Int.reduceAdd, Int.reduceSub, Int.reduceMul, Int.reduceNeg, reduceCtorEq, Option.bind_some, Option.map_some, List.length_cons, List.length_nil, vcM, List.getElem?_toArray, List.getElem?_cons_zero, List.getElem?_cons_succ])
    exact fin 0 _ (by omega) hm.symm
  · by_cases h6 : n > 65536
    · have hm : (newD n).n = 65536 := by simp only [newD]; omega
      (refine W_at c9_ok ?_; refine ⟨_, rfl, ?_⟩; simp (disch := first | omega | assumption | rfl | (simp only [vcS] <;> omega) | fail) only [↓ptV_l, ↓vcA, vcB, ↓vcD, vcE, ↓reduceIte, Nat.reduceEqDiff, Nat.reduceAdd, Nat.reduceMul, Nat.reduceLeDiff, Int.reduceLE, Int.reduceLT, Int.reduceEq, Int.reduceToNat, Int.reduceAdd, Int.reduceSub, Int.reduceMul, Int.reduceNeg, reduceCtorEq, Option.bind_some, Option.map_some, List.length_cons, List.length_nil, vcM, List.getElem?_toArray, List.getElem?_cons_zero, List.getElem?_cons_succ, h0])
      (refine W_at c9_ok ?_; refine ⟨_, rfl, ?_⟩; simp (disch := first | omega | assumption | rfl | (simp only [vcS] <;> omega) | fail) only [↓ptV_l, ↓vcA, vcB, ↓vcD, vcE, ↓reduceIte, Nat.reduceEqDiff, Nat.reduceAdd, Nat.reduceMul, Nat.reduceLeDiff, Int.reduceLE, Int.reduceLT, Int.reduceEq, Int.reduceToNat, Int.reduceAdd, Int.reduceSub, Int.reduceMul, Int.reduceNeg, reduceCtorEq, Option.bind_some, Option.map_some, List.length_cons, List.length_nil, vcM, List.getElem?_toArray, List.getElem?_cons_zero, List.getElem?_cons_succ])
      (refine W_at c9_ok ?_; refine ⟨_, rfl, ?_⟩; simp (disch := first | omega | assumption | rfl | (simp only [vcS] <;> omega) | fail) only [↓ptV_l, ↓vcA, vcB, ↓vcD, vcE, ↓reduceIte, Nat.reduceEqDiff, Nat.reduceAdd, Nat.reduceMul, Nat.reduceLeDiff, Int.reduceLE, Int.reduceLT, Int.reduceEq, Int.reduceToNat, Int.reduceAdd, Int.reduceSub, Int.reduceMul, Int.reduceNeg, reduceCtorEq, Option.bind_some, Option.map_some, List.length_cons, List.length_nil, vcM, List.getElem?_toArray, List.getElem?_cons_zero, List.getElem?_cons_succ, h6])
      (refine W_at c9_ok ?_; refine ⟨_, rfl, ?_⟩; simp (disch := first | omega | assumption | rfl | (simp only [vcS] <;> omega) | fail) only [↓ptV_l, ↓vcA, vcB, ↓vcD, vcE, ↓reduceIte, Nat.reduceEqDiff, Nat.reduceAdd, Nat.reduceMul, Nat.reduceLeDiff, Int.reduceLE, Int.reduceLT, Int.reduceEq, Int.reduceToNat, Int.reduceAdd, Int.reduceSub, Int.reduceMul, Int.reduceNeg, reduceCtorEq, Option.bind_some, Option.map_some, List.length_cons, List.length_nil, vcM, List.getElem?_toArray, List.getElem?_cons_zero, List.getElem?_cons_succ])
      (refine W_at c9_ok ?_; refine ⟨_, rfl, ?_⟩; simp (disch := first | omega | assumption | rfl | (simp only [vcS] <;> omega) | fail) only [↓ptV_l, ↓vcA, vcB, ↓vcD, vcE, ↓reduceIte, Nat.reduceEqDiff, Nat.reduceAdd, Nat.reduceMul, Nat.reduceLeDiff, Int.reduceLE, Int.reduceLT, Int.reduceEq, Int.reduceToNat, Int.reduceAdd, Int.reduceSub, Int.reduceMul, Int.reduceNeg, reduceCtorEq, Option.bind_some, Option.map_some, List.length_cons, List.length_nil, vcM, List.getElem?_toArray, List.getElem?_cons_zero, List.getElem?_cons_succ])
      exact fin 65536 _ (by omega) hm.symm
    · obtain ⟨m, rfl⟩ : ∃ m : Nat, n = m := ⟨n.toNat, by omega⟩
      have hm : (newD (m : Int)).n = m := by simp only [newD]; omega
      (refine W_at c9_ok ?_; refine ⟨_, rfl, ?_⟩; simp (disch := first | omega | assumption | rfl | (simp only [vcS] <;> omega) | fail) only [↓ptV_l, ↓vcA, vcB, ↓vcD, vcE, ↓reduceIte, Nat.reduceEqDiff, Nat.reduceAdd, Nat.reduceMul, Nat.reduceLeDiff, Int.reduceLE, Int.reduceLT, Int.reduceEq, Int.reduceToNat, Int.reduceAdd, Int.reduceSub, Int.reduceMul, Int.reduceNeg, reduceCtorEq, Option.bind_some, Option.map_some, List.length_cons, List.length_nil, vcM, List.getElem?_toArray, List.getElem?_cons_zero, List.getElem?_cons_succ, h0])
      (refine W_at c9_ok ?_; refine ⟨_, rfl, ?_⟩; simp (disch := first | omega | assumption | rfl | (simp only [vcS] <;> omega) | fail) only [↓ptV_l, ↓vcA, vcB, ↓vcD, vcE, ↓reduceIte, Nat.reduceEqDiff, Nat.reduceAdd, Nat.reduceMul, Nat.reduceLeDiff, Int.reduceLE, Int.reduceLT, Int.reduceEq, Int.reduceToNat, Int.reduceAdd, Int.reduceSub, Int.reduceMul, Int.reduceNeg, reduceCtorEq, Option.bind_some, Option.map_some, List.length_cons, List.length_nil, vcM, List.getElem?_toArray, List.getElem?_cons_zero, List.getElem?_cons_succ])
      (refine W_at c9_ok ?_; refine ⟨_, rfl, ?_⟩; simp (disch := first | omega | assumption | rfl | (simp only [vcS] <;> omega) | fail) only [↓ptV_l, ↓vcA, vcB, ↓vcD, vcE, ↓reduceIte, Nat.reduceEqDiff, Nat.reduceAdd, Nat.reduceMul, Nat.reduceLeDiff, Int.reduceLE, Int.reduceLT, Int.reduceEq, Int.reduceToNat, Int.reduceAdd, Int.reduceSub, Int.reduceMul, Int.reduceNeg, reduceCtorEq, Option.bind_some, Option.map_some, List.length_cons, List.length_nil, vcM, List.getElem?_toArray, List.getElem?_cons_zero, List.getElem?_cons_succ, h6])
      (refine W_at c9_ok ?_; refine ⟨_, rfl, ?_⟩; simp (disch := first | omega | assumption | rfl | (simp only [vcS] <;> omega) | fail) only [↓ptV_l, ↓vcA, vcB, ↓vcD, vcE, ↓reduceIte, Nat.reduceEqDiff, Nat.reduceAdd, Nat.reduceMul, Nat.reduceLeDiff, Int.reduceLE, Int.reduceLT, Int.reduceEq, Int.reduceToNat, Int.reduceAdd, Int.reduceSub, Int.reduceMul, Int.reduceNeg, reduceCtorEq, Option.bind_some, Option.map_some, List.length_cons, List.length_nil, vcM, List.getElem?_toArray, List.getElem?_cons_zero, List.getElem?_cons_succ])
      exact fin m _ (by omega) hm.symm
/-- The document's disk in a box of the call's own. -/
theorem rbox {w : World} {sv qv : Value} {d : DS} (t : TypeId) : (w.alloc (.cells (rv sv qv d).cells t)).heap[w.heap.size]? = some (.cells (rcell sv qv d) t (0, 0)) := heap_new _ _ _ rfl
theorem rthere_ok (w : World) (sv qv : Value) (d : DS) (i : Int) (h : RD w sv qv d) :
    Calls Try.prog 34 #[rv sv qv d, .int .i64 i] w (Ret fun u w' => u = .bool (thereB d.n i) ∧ Ext w w') := by
  refine calls_of_cfg c34_ok (Nat.le_of_ble_eq_true rfl) ?_
  simp only [argE_nil, argE_cons, Nat.reduceAdd, Nat.zero_add]
  have hsl := h.safe.len
  rw [secs_len] at hsl
  have hb := rbox (w := w) (sv := sv) (qv := qv) (d := d) 30
  have hE : Ext w (w.alloc (.cells (rv sv qv d).cells 30)) := (Keep.refl _ w).alloc _
  unfold thereB
  (refine W_at c34_ok ?_; refine ⟨_, rfl, ?_⟩; simp (disch := first | omega | assumption | rfl | (simp only [vcS] <;> omega) | fail) only [↓ptV_l, ↓vcA, vcB, ↓vcD, vcE, ↓reduceIte, Nat.reduceEqDiff, Nat.reduceAdd, Nat.reduceMul, Nat.reduceLeDiff, Int.reduceLE, Int.reduceLT, Int.reduceEq, Int.reduceToNat, Int.reduceAdd, Int.reduceSub, Int.reduceMul, Int.reduceNeg, reduceCtorEq, Option.bind_some, Option.map_some, List.length_cons, List.length_nil, vcM, List.getElem?_toArray, List.getElem?_cons_zero, List.getElem?_cons_succ])
  generalize w.heap.size = b at hb ⊢
  generalize World.alloc _ _ = w1 at hb hE ⊢
  have h0c : (rcell sv qv d)[0]? = some sv := rfl
  by_cases h0 : 0 ≤ i
  · (refine W_at c34_ok ?_; refine ⟨_, rfl, ?_⟩; simp (disch := first | omega | assumption | rfl | (simp only [vcS] <;> omega) | fail) only [↓ptV_l, ↓vcA, vcB, ↓vcD, vcE, ↓reduceIte, Nat.reduceEqDiff, Nat.reduceAdd, Nat.reduceMul, Nat.reduceLeDiff, Int.reduceLE, Int.reduceLT, Int.reduceEq, Int.reduceToNat, Int.reduceAdd, Int.reduceSub, Int.reduceMul, Int.reduceNeg, reduceCtorEq, Option.bind_some, Option.map_some, List.length_cons, List.length_nil, vcM, List.getElem?_toArray, List.getElem?_cons_zero, List.getElem?_cons_succ, h0, hb, h0c, hsl])
    (refine W_at c34_ok ?_; refine ⟨_, rfl, ?_⟩; simp (disch := first | omega | assumption | rfl | (simp only [vcS] <;> omega) | fail) only [↓ptV_l, ↓vcA, vcB, ↓vcD, vcE, ↓reduceIte, Nat.reduceEqDiff, Nat.reduceAdd, Nat.reduceMul, Nat.reduceLeDiff, Int.reduceLE, Int.reduceLT, Int.reduceEq, Int.reduceToNat, Int.reduceAdd, Int.reduceSub, Int.reduceMul, Int.reduceNeg, reduceCtorEq, Option.bind_some, Option.map_some, List.length_cons, List.length_nil, vcM, List.getElem?_toArray, List.getElem?_cons_zero, List.getElem?_cons_succ, Ret_returned])
    exact ⟨by simp, hE⟩
  · (refine W_at c34_ok ?_; refine ⟨_, rfl, ?_⟩; simp (disch := first | omega | assumption | rfl | (simp only [vcS] <;> omega) | fail) only [↓ptV_l, ↓vcA, vcB, ↓vcD, vcE, ↓reduceIte, Nat.reduceEqDiff, Nat.reduceAdd, Nat.reduceMul, Nat.reduceLeDiff, Int.reduceLE, Int.reduceLT, Int.reduceEq, Int.reduceToNat, Int.reduceAdd, Int.reduceSub, Int.reduceMul, Int.reduceNeg, reduceCtorEq, Option.bind_some, Option.map_some, List.length_cons, List.length_nil, vcM, List.getElem?_toArray, List.getElem?_cons_zero, List.getElem?_cons_succ, h0])
    (refine W_at c34_ok ?_; refine ⟨_, rfl, ?_⟩; simp (disch := first | omega | assumption | rfl | (simp only [vcS] <;> omega) | fail) only [↓ptV_l, ↓vcA, vcB, ↓vcD, vcE, ↓reduceIte, Nat.reduceEqDiff, Nat.reduceAdd, Nat.reduceMul, Nat.reduceLeDiff, Int.reduceLE, Int.reduceLT, Int.reduceEq, Int.reduceToNat, Int.reduceAdd, Int.reduceSub, Int.reduceMul, Int.reduceNeg, reduceCtorEq, Option.bind_some, Option.map_some, List.length_cons, List.length_nil, vcM, List.getElem?_toArray, List.getElem?_cons_zero, List.getElem?_cons_succ, Ret_returned])
    exact ⟨by simp [h0], hE⟩
theorem rc_set2 (sv qv : Value) (d : DS) (x : Int) : (rcell sv qv d).setIfInBounds 2 (.int .i64 x) = rcell sv qv { d with left := x } := rfl
theorem rc_set3 (sv qv : Value) (d : DS) (x : Bool) : (rcell sv qv d).setIfInBounds 3 (.bool x) = rcell sv qv { d with dead := x } := rfl
theorem rc_set1 (sv qv qv' : Value) (d : DS) : (rcell sv qv d).setIfInBounds 1 qv' = rcell sv qv' d := rfl
theorem rc_set0 (sv qv sv' : Value) (d : DS) : (rcell sv qv d).setIfInBounds 0 sv' = rcell sv' qv d := rfl
theorem rc_flat {w : World} {sv qv : Value} {d : DS} (h1 : sv.oneCell' = true) (h2 : qv.oneCell' = true) : flat (rcell sv qv d) := by
  intro v hv; simp [rcell] at hv; rcases hv with rfl | rfl | rfl | rfl; exact h1; exact h2; rfl; rfl
theorem rc_ext (sv qv : Value) (d : DS) : (rcell sv qv d).extract 0 (0 + 4) = rcell sv qv d := rfl
theorem rc_size (sv qv : Value) (d : DS) : (rcell sv qv d).size = 4 := rfl
set_option maxHeartbeats 800000 in
theorem rcall_ok (w : World) (sv qv : Value) (d : DS) (h : RD w sv qv d) (hl : -1 ≤ d.left ∧ d.left ≤ 9223372036854775807) :
    Calls Try.prog 38 #[rv sv qv d] w (Ret fun u w' => u = .tuple #[rv sv qv (callD d).1, .bool (callD d).2] ∧ Ext w w') := by
  refine calls_of_cfg c38_ok (Nat.le_of_ble_eq_true rfl) ?_
  simp only [argE_nil, argE_cons, Nat.reduceAdd, Nat.zero_add]
  have hz4 : zc [(2, Value.slice none 0 0), (1, .int .i64 0), (1, .bool false)] = #[.slice none 0 0, .slice none 0 0, .int .i64 0, .bool false] := rfl
  have hfl : ∀ d : DS, flat (rcell sv qv d) := fun d => rc_flat (w := w) h.safe.one h.queue.one
  (refine W_at c38_ok ?_; refine ⟨_, rfl, ?_⟩; simp (disch := first | omega | assumption | rfl | (simp only [vcS] <;> omega) | fail) only [↓ptV_l, ↓vcA, vcB, ↓vcD, vcE, ↓reduceIte, Nat.reduceEqDiff, Nat.reduceAdd, Nat.reduceMul, Nat.reduceLeDiff, Int.reduceLE, Int.reduceLT, Int.reduceEq, Int.reduceToNat, Int.reduceAdd, Int.reduceSub, Int.reduceMul, Int.reduceNeg, reduceCtorEq, Option.bind_some, Option.map_some, List.length_cons, List.length_nil, vcM, List.getElem?_toArray, List.getElem?_cons_zero, List.getElem?_cons_succ, hz4])
  have hb1 : ((w.alloc (.cells (rv sv qv d).cells 30)).alloc (.cells #[.slice none 0 0, .slice none 0 0, .int .i64 0, .bool false] 30)).heap[w.heap.size]? = some (.cells (rcell sv qv d) 30 (0, 0)) := by
    rw [heap_old _ _ _ (by simp)]; exact rbox _
  have hb2 : ((w.alloc (.cells (rv sv qv d).cells 30)).alloc (.cells #[.slice none 0 0, .slice none 0 0, .int .i64 0, .bool false] 30)).heap[w.heap.size + 1]? = some (.cells #[.slice none 0 0, .slice none 0 0, .int .i64 0, .bool false] 30 (0, 0)) := heap_new _ _ _ (by simp)
  have hE : Ext w ((w.alloc (.cells (rv sv qv d).cells 30)).alloc (.cells #[.slice none 0 0, .slice none 0 0, .int .i64 0, .bool false] 30)) := ((Keep.refl _ w).alloc _).alloc _
  generalize World.alloc _ _ = w1 at hb1 hb2 hE ⊢
  have hn12 : w.heap.size ≠ w.heap.size + 1 := by omega
  generalize hp1 : w.heap.size = p1 at hb1 hb2 hn12 ⊢
  have hp1' : w.heap.size ≤ p1 := by omega
  generalize hp2 : p1 + 1 = p2 at hb2 hn12 ⊢
  have hof : okO (some (.cells #[.slice none 0 0, .slice none 0 0, .int .i64 0, .bool false] 30 (0, 0))) 0 4 = True := by simp [okO]
  have hx4 : ∀ d : DS, (rcell sv qv d).extract 0 (0 + 4) = rcell sv qv d := fun _ => rfl
  have hr4 : ∀ d : DS, (rcell sv qv d).size = 4 := fun _ => rfl
  have g3 : ∀ d : DS, (rcell sv qv d)[3]? = some (.bool d.dead) := fun _ => rfl
  have g2 : ∀ d : DS, (rcell sv qv d)[2]? = some (.int .i64 d.left) := fun _ => rfl
  have fin : ∀ (d' : DS) (b : Bool) (wj : World) (tl : Env), wj.heap[p1]? = some (.cells (rcell sv qv d') 30 (0, 0)) → wj.heap[p2]? = some (.cells #[.slice none 0 0, .slice none 0 0, .int .i64 0, .bool false] 30 (0, 0)) → Ext w wj → callD d = (d', b) →
      flat (rcell sv qv d') ∧ rdO (wj.putN p2 0 (rcell sv qv d')).heap[p2]? 0 4 = some (rcell sv qv d') ∧ Ext w (wj.putN p2 0 (rcell sv qv d')) := by
    intro d' b wj tl q1 q2 hEj hc
    refine ⟨hfl d', ?_, hEj.putN _ (by omega)⟩
    rw [heap_putN_eq q2, splice_all (by simp [rcell])]
    exact rdO_all _ _ _ _ rfl
  cases hd : d.dead with
  | true =>
    have hc : callD d = (d, false) := by rw [callD, hd]; rfl
    obtain ⟨f1, f2, f3⟩ := fin d false w1 [] hb1 hb2 hE hc
    have g3' := g3 d
    rw [hd] at g3'
    (refine W_at c38_ok ?_; refine ⟨_, rfl, ?_⟩; simp (disch := first | omega | assumption | rfl | (simp only [vcS] <;> omega) | fail) only [↓ptV_l, ↓vcA, vcB, ↓vcD, vcE, ↓reduceIte, Nat.reduceEqDiff, Nat.reduceAdd, Nat.reduceMul, Nat.reduceLeDiff, Int.reduceLE, Int.reduceLT, Int.reduceEq, Int.reduceToNat, Int.reduceAdd, Int.reduceSub, Int.reduceMul, Int.reduceNeg, reduceCtorEq, Option.bind_some, Option.map_some, List.length_cons, List.length_nil, vcM, List.getElem?_toArray, List.getElem?_cons_zero, List.getElem?_cons_succ, hb1, g3'])
    (refine W_at c38_ok ?_; refine ⟨_, rfl, ?_⟩; simp (disch := first | omega | assumption | rfl | (simp only [vcS] <;> omega) | fail) only [↓ptV_l, ↓vcA, vcB, ↓vcD, vcE, ↓reduceIte, Nat.reduceEqDiff, Nat.reduceAdd, Nat.reduceMul, Nat.reduceLeDiff, Int.reduceLE, Int.reduceLT, Int.reduceEq, Int.reduceToNat, Int.reduceAdd, Int.reduceSub, Int.reduceMul, Int.reduceNeg, reduceCtorEq, Option.bind_some, Option.map_some, List.length_cons, List.length_nil, vcM, List.getElem?_toArray, List.getElem?_cons_zero, List.getElem?_cons_succ])
    have e1 := hx4 d
    have e2 := hr4 d
    (refine W_at c38_ok ?_; refine ⟨_, rfl, ?_⟩; simp (disch := first | omega | assumption | rfl | (simp only [vcS] <;> omega) | fail) only [↓ptV_l, ↓vcA, vcB, ↓vcD, vcE, ↓reduceIte, Nat.reduceEqDiff, Nat.reduceAdd, Nat.reduceMul, Nat.reduceLeDiff, Int.reduceLE, Int.reduceLT, Int.reduceEq, Int.reduceToNat, Int.reduceAdd, Int.reduceSub, Int.reduceMul, Int.reduceNeg, reduceCtorEq, Option.bind_some, Option.map_some, List.length_cons, List.length_nil, vcM, List.getElem?_toArray, List.getElem?_cons_zero, List.getElem?_cons_succ, hb1, hb2, hof, e1, e2])
    refine ⟨f1, ?_⟩
    (refine W_at c38_ok ?_; refine ⟨_, rfl, ?_⟩; simp (disch := first | omega | assumption | rfl | (simp only [vcS] <;> omega) | fail) only [↓ptV_l, ↓vcA, vcB, ↓vcD, vcE, ↓reduceIte, Nat.reduceEqDiff, Nat.reduceAdd, Nat.reduceMul, Nat.reduceLeDiff, Int.reduceLE, Int.reduceLT, Int.reduceEq, Int.reduceToNat, Int.reduceAdd, Int.reduceSub, Int.reduceMul, Int.reduceNeg, reduceCtorEq, Option.bind_some, Option.map_some, List.length_cons, List.length_nil, vcM, List.getElem?_toArray, List.getElem?_cons_zero, List.getElem?_cons_succ, f2, Ret_returned])
    rw [hc]
    exact ⟨rfl, f3⟩
  | false =>
    have g3' := g3 d
    rw [hd] at g3'
    have g2' := g2 d
    (refine W_at c38_ok ?_; refine ⟨_, rfl, ?_⟩; simp (disch := first | omega | assumption | rfl | (simp only [vcS] <;> omega) | fail) only [↓ptV_l, ↓vcA, vcB, ↓vcD, vcE, ↓reduceIte, Nat.reduceEqDiff, Nat.reduceAdd, Nat.reduceMul, Nat.reduceLeDiff, Int.reduceLE, Int.reduceLT, Int.reduceEq, Int.reduceToNat, Int.reduceAdd, Int.reduceSub, Int.reduceMul, Int.reduceNeg, reduceCtorEq, Option.bind_some, Option.map_some, List.length_cons, List.length_nil, vcM, List.getElem?_toArray, List.getElem?_cons_zero, List.getElem?_cons_succ, hb1, g3'])
    (refine W_at c38_ok ?_; refine ⟨_, rfl, ?_⟩; simp (disch := first | omega | assumption | rfl | (simp only [vcS] <;> omega) | fail) only [↓ptV_l, ↓vcA, vcB, ↓vcD, vcE, ↓reduceIte, Nat.reduceEqDiff, Nat.reduceAdd, Nat.reduceMul, Nat.reduceLeDiff, Int.reduceLE, Int.reduceLT, Int.reduceEq, Int.reduceToNat, Int.reduceAdd, Int.reduceSub, Int.reduceMul, Int.reduceNeg, reduceCtorEq, Option.bind_some, Option.map_some, List.length_cons, List.length_nil, vcM, List.getElem?_toArray, List.getElem?_cons_zero, List.getElem?_cons_succ])
    by_cases h0 : d.left = 0
    · have hc : callD d = ({ d with dead := true }, false) := by rw [callD, hd, if_neg (by simp), if_pos h0]
      have k1 : Keep (fun k => k = p1) w1 (w1.setCell ⟨p1, 3, none⟩ (.bool true)) := (Keep.refl _ w1).setCell _ fun _ => rfl
      have q1 : (w1.setCell ⟨p1, 3, none⟩ (.bool true)).heap[p1]? = some (.cells (rcell sv qv { d with dead := true }) 30 (0, 0)) := by rw [heap_setCell_eq hb1, rc_set3]
      have q2 := k1.at hb2 (fun e => hn12 e.symm)
      obtain ⟨f1, f2, f3⟩ := fin { d with dead := true } false _ [] q1 q2 (hE.trans k1 fun k hk e => by omega) hc
      have e1 := hx4 { d with dead := true }
      have e2 := hr4 { d with dead := true }
      (refine W_at c38_ok ?_; refine ⟨_, rfl, ?_⟩; simp (disch := first | omega | assumption | rfl | (simp only [vcS] <;> omega) | fail) only [↓ptV_l, ↓vcA, vcB, ↓vcD, vcE, ↓reduceIte, Nat.reduceEqDiff, Nat.reduceAdd, Nat.reduceMul, Nat.reduceLeDiff, Int.reduceLE, Int.reduceLT, Int.reduceEq, Int.reduceToNat, Int.reduceAdd, Int.reduceSub, Int.reduceMul, Int.reduceNeg, reduceCtorEq, Option.bind_some, Option.map_some, List.length_cons, List.length_nil, vcM, List.getElem?_toArray, List.getElem?_cons_zero, List.getElem?_cons_succ, hb1, g2', h0])
      (refine W_at c38_ok ?_; refine ⟨_, rfl, ?_⟩; simp (disch := first | omega | assumption | rfl | (simp only [vcS] <;> omega) | fail) only [↓ptV_l, ↓vcA, vcB, ↓vcD, vcE, ↓reduceIte, Nat.reduceEqDiff, Nat.reduceAdd, Nat.reduceMul, Nat.reduceLeDiff, Int.reduceLE, Int.reduceLT, Int.reduceEq, Int.reduceToNat, Int.reduceAdd, Int.reduceSub, Int.reduceMul, Int.reduceNeg, reduceCtorEq, Option.bind_some, Option.map_some, List.length_cons, List.length_nil, vcM, List.getElem?_toArray, List.getElem?_cons_zero, List.getElem?_cons_succ])
      (refine W_at c38_ok ?_; refine ⟨_, rfl, ?_⟩; simp (disch := first | omega | assumption | rfl | (simp only [vcS] <;> omega) | fail) only [↓ptV_l, ↓vcA, vcB, ↓vcD, vcE, ↓reduceIte, Nat.reduceEqDiff, Nat.reduceAdd, Nat.reduceMul, Nat.reduceLeDiff, Int.reduceLE, Int.reduceLT, Int.reduceEq, Int.reduceToNat, Int.reduceAdd, Int.reduceSub, Int.reduceMul, Int.reduceNeg, reduceCtorEq, Option.bind_some, Option.map_some, List.length_cons, List.length_nil, vcM, List.getElem?_toArray, List.getElem?_cons_zero, List.getElem?_cons_succ])
      refine ⟨wr1_of hb1 (by simp [rcell]), ?_⟩
      generalize World.setCell _ _ _ = w2 at q1 q2 f2 f3 ⊢
      (refine W_at c38_ok ?_; refine ⟨_, rfl, ?_⟩; simp (disch := first | omega | assumption | rfl | (simp only [vcS] <;> omega) | fail) only [↓ptV_l, ↓vcA, vcB, ↓vcD, vcE, ↓reduceIte, Nat.reduceEqDiff, Nat.reduceAdd, Nat.reduceMul, Nat.reduceLeDiff, Int.reduceLE, Int.reduceLT, Int.reduceEq, Int.reduceToNat, Int.reduceAdd, Int.reduceSub, Int.reduceMul, Int.reduceNeg, reduceCtorEq, Option.bind_some, Option.map_some, List.length_cons, List.length_nil, vcM, List.getElem?_toArray, List.getElem?_cons_zero, List.getElem?_cons_succ, q1, q2, hof, e1, e2])
      refine ⟨f1, ?_⟩
      (refine W_at c38_ok ?_; refine ⟨_, rfl, ?_⟩; simp (disch := first | omega | assumption | rfl | (simp only [vcS] <;> omega) | fail) only [↓ptV_l, ↓vcA, vcB, ↓vcD, vcE, ↓reduceIte, Nat.reduceEqDiff, Nat.reduceAdd, Nat.reduceMul, Nat.reduceLeDiff, Int.reduceLE, Int.reduceLT, Int.reduceEq, Int.reduceToNat, Int.reduceAdd, Int.reduceSub, Int.reduceMul, Int.reduceNeg, reduceCtorEq, Option.bind_some, Option.map_some, List.length_cons, List.length_nil, vcM, List.getElem?_toArray, List.getElem?_cons_zero, List.getElem?_cons_succ, f2, Ret_returned])
      rw [hc]
      exact ⟨rfl, f3⟩
    · by_cases hp : d.left > 0
      · have hc : callD d = ({ d with left := d.left - 1 }, true) := by rw [callD, hd, if_neg (by simp), if_neg h0, if_pos hp]
        have hws : IntKind.i64.wrap (d.left - 1) = d.left - 1 := wrap_i64 (by omega) (by omega)
        have k1 : Keep (fun k => k = p1) w1 (w1.setCell ⟨p1, 2, none⟩ (.int .i64 (d.left - 1))) := (Keep.refl _ w1).setCell _ fun _ => rfl
        have q1 : (w1.setCell ⟨p1, 2, none⟩ (.int .i64 (d.left - 1))).heap[p1]? = some (.cells (rcell sv qv { d with left := d.left - 1 }) 30 (0, 0)) := by rw [heap_setCell_eq hb1, rc_set2]
        have q2 := k1.at hb2 (fun e => hn12 e.symm)
        obtain ⟨f1, f2, f3⟩ := fin { d with left := d.left - 1 } true _ [] q1 q2 (hE.trans k1 fun k hk e => by omega) hc
        have e1 := hx4 { d with left := d.left - 1 }
        have e2 := hr4 { d with left := d.left - 1 }
        (refine W_at c38_ok ?_; refine ⟨_, rfl, ?_⟩; simp (disch := first | omega | assumption | rfl | (simp only [vcS] <;> omega) | fail) only [↓ptV_l, ↓vcA, vcB, ↓vcD, vcE, ↓reduceIte, Nat.reduceEqDiff, Nat.reduceAdd, Nat.reduceMul, Nat.reduceLeDiff, Int.reduceLE, Int.reduceLT, Int.reduceEq, Int.reduceToNat, Int.reduceAdd, Int.reduceSub, Int.reduceMul, Int.reduceNeg, reduceCtorEq, Option.bind_some, Option.map_some, List.length_cons, List.length_nil, vcM, List.getElem?_toArray, List.getElem?_cons_zero, List.getElem?_cons_succ, hb1, g2', h0])
        (refine W_at c38_ok ?_; refine ⟨_, rfl, ?_⟩; simp (disch := first | omega | assumption | rfl | (simp only [vcS] <;> omega) | fail) only [↓ptV_l, ↓vcA, vcB, ↓vcD, vcE, ↓reduceIte, Nat.reduceEqDiff, Nat.reduceAdd, Nat.reduceMul, Nat.reduceLeDiff, Int.reduceLE, Int.reduceLT, Int.reduceEq, Int.reduceToNat, Int.reduceAdd, Int.reduceSub, Int.reduceMul, Int.reduceNeg, reduceCtorEq, Option.bind_some, Option.map_some, List.length_cons, List.length_nil, vcM, List.getElem?_toArray, List.getElem?_cons_zero, List.getElem?_cons_succ])
        (refine W_at c38_ok ?_; refine ⟨_, rfl, ?_⟩; simp (disch := first | omega | assumption | rfl | (simp only [vcS] <;> omega) | fail) only [↓ptV_l, ↓vcA, vcB, ↓vcD, vcE, ↓reduceIte, Nat.reduceEqDiff, Nat.reduceAdd, Nat.reduceMul, Nat.reduceLeDiff, Int.reduceLE, Int.reduceLT, Int.reduceEq, Int.reduceToNat, Int.reduceAdd, Int.reduceSub, Int.reduceMul, Int.reduceNeg, reduceCtorEq, Option.bind_some, Option.map_some, List.length_cons, List.length_nil, vcM, List.getElem?_toArray, List.getElem?_cons_zero, List.getElem?_cons_succ, hb1, g2', hp])
        (refine W_at c38_ok ?_; refine ⟨_, rfl, ?_⟩; simp (disch := first | omega | assumption | rfl | (simp only [vcS] <;> omega) | fail) only [↓ptV_l, ↓vcA, vcB, ↓vcD, vcE, ↓reduceIte, Nat.reduceEqDiff, Nat.reduceAdd, Nat.reduceMul, Nat.reduceLeDiff, Int.reduceLE, Int.reduceLT, Int.reduceEq, Int.reduceToNat, Int.reduceAdd, Int.reduceSub, Int.reduceMul, Int.reduceNeg, reduceCtorEq, Option.bind_some, Option.map_some, List.length_cons, List.length_nil, vcM, List.getElem?_toArray, List.getElem?_cons_zero, List.getElem?_cons_succ])
        (refine W_at c38_ok ?_; refine ⟨_, rfl, ?_⟩; simp (disch := first | omega | assumption | rfl | (simp only [vcS] <;> omega) | fail) only [↓ptV_l, ↓vcA, vcB, ↓vcD, vcE, ↓reduceIte, Nat.reduceEqDiff, Nat.reduceAdd, Nat.reduceMul, Nat.reduceLeDiff, Int.reduceLE, Int.reduceLT, Int.reduceEq, Int.reduceToNat, Int.reduceAdd, Int.reduceSub, Int.reduceMul, Int.reduceNeg, reduceCtorEq, Option.bind_some, Option.map_some, List.length_cons, List.length_nil, vcM, List.getElem?_toArray, List.getElem?_cons_zero, List.getElem?_cons_succ, hb1, g2', hws])
        refine ⟨wr1_of hb1 (by simp [rcell]), ?_⟩
        generalize World.setCell _ _ _ = w2 at q1 q2 f2 f3 ⊢
        (refine W_at c38_ok ?_; refine ⟨_, rfl, ?_⟩; simp (disch := first | omega | assumption | rfl | (simp only [vcS] <;> omega) | fail) only [↓ptV_l, ↓vcA, vcB, ↓vcD, vcE, ↓reduceIte, Nat.reduceEqDiff, Nat.reduceAdd, Nat.reduceMul, Nat.reduceLeDiff, Int.reduceLE, Int.reduceLT, Int.reduceEq, Int.reduceToNat, Int.reduceAdd, Int.reduceSub, Int.reduceMul, Int.reduceNeg, reduceCtorEq, Option.bind_some, Option.map_some, List.length_cons, List.length_nil, vcM, List.getElem?_toArray, List.getElem?_cons_zero, List.getElem?_cons_succ, q1, q2, hof, e1, e2])
        refine ⟨f1, ?_⟩
        (refine W_at c38_ok ?_; refine ⟨_, rfl, ?_⟩; simp (disch := first | omega | assumption | rfl | (simp only [vcS] <;> omega) | fail) only [↓ptV_l, ↓vcA, vcB, ↓vcD, vcE, ↓reduceIte, Nat.reduceEqDiff, Nat.reduceAdd, Nat.reduceMul, Nat.reduceLeDiff, Int.reduceLE, Int.reduceLT, Int.reduceEq, Int.reduceToNat, Int.reduceAdd, Int.reduceSub, Int.reduceMul, Int.reduceNeg, reduceCtorEq, Option.bind_some, Option.map_some, List.length_cons, List.length_nil, vcM, List.getElem?_toArray, List.getElem?_cons_zero, List.getElem?_cons_succ, f2, Ret_returned])
        rw [hc]
        exact ⟨rfl, f3⟩
      · have hc : callD d = (d, true) := by rw [callD, hd, if_neg (by simp), if_neg h0, if_neg hp]
        obtain ⟨f1, f2, f3⟩ := fin d true w1 [] hb1 hb2 hE hc
        have e1 := hx4 d
        have e2 := hr4 d
        (refine W_at c38_ok ?_; refine ⟨_, rfl, ?_⟩; simp (disch := first | omega | assumption | rfl | (simp only [vcS] <;> omega) | fail) only [↓ptV_l, ↓vcA, vcB, ↓vcD, vcE, ↓reduceIte, Nat.reduceEqDiff, Nat.reduceAdd, Nat.reduceMul, Nat.reduceLeDiff, Int.reduceLE, Int.reduceLT, Int.reduceEq, Int.reduceToNat, Int.reduceAdd, Int.reduceSub, Int.reduceMul, Int.reduceNeg, reduceCtorEq, Option.bind_some, Option.map_some, List.length_cons, List.length_nil, vcM, List.getElem?_toArray, List.getElem?_cons_zero, List.getElem?_cons_succ, hb1, g2', h0])
        (refine W_at c38_ok ?_; refine ⟨_, rfl, ?_⟩; simp (disch := first | omega | assumption | rfl | (simp only [vcS] <;> omega) | fail) only [↓ptV_l, ↓vcA, vcB, ↓vcD, vcE, ↓reduceIte, Nat.reduceEqDiff, Nat.reduceAdd, Nat.reduceMul, Nat.reduceLeDiff, Int.reduceLE, Int.reduceLT, Int.reduceEq, Int.reduceToNat, Int.reduceAdd, Int.reduceSub, Int.reduceMul, Int.reduceNeg, reduceCtorEq, Option.bind_some, Option.map_some, List.length_cons, List.length_nil, vcM, List.getElem?_toArray, List.getElem?_cons_zero, List.getElem?_cons_succ])
        (refine W_at c38_ok ?_; refine ⟨_, rfl, ?_⟩; simp (disch := first | omega | assumption | rfl | (simp only [vcS] <;> omega) | fail) only [↓ptV_l, ↓vcA, vcB, ↓vcD, vcE, ↓reduceIte, Nat.reduceEqDiff, Nat.reduceAdd, Nat.reduceMul, Nat.reduceLeDiff, Int.reduceLE, Int.reduceLT, Int.reduceEq, Int.reduceToNat, Int.reduceAdd, Int.reduceSub, Int.reduceMul, Int.reduceNeg, reduceCtorEq, Option.bind_some, Option.map_some, List.length_cons, List.length_nil, vcM, List.getElem?_toArray, List.getElem?_cons_zero, List.getElem?_cons_succ, hb1, g2', hp])
        (refine W_at c38_ok ?_; refine ⟨_, rfl, ?_⟩; simp (disch := first | omega | assumption | rfl | (simp only [vcS] <;> omega) | fail) only [↓ptV_l, ↓vcA, vcB, ↓vcD, vcE, ↓reduceIte, Nat.reduceEqDiff, Nat.reduceAdd, Nat.reduceMul, Nat.reduceLeDiff, Int.reduceLE, Int.reduceLT, Int.reduceEq, Int.reduceToNat, Int.reduceAdd, Int.reduceSub, Int.reduceMul, Int.reduceNeg, reduceCtorEq, Option.bind_some, Option.map_some, List.length_cons, List.length_nil, vcM, List.getElem?_toArray, List.getElem?_cons_zero, List.getElem?_cons_succ])
        (refine W_at c38_ok ?_; refine ⟨_, rfl, ?_⟩; simp (disch := first | omega | assumption | rfl | (simp only [vcS] <;> omega) | fail) only [↓ptV_l, ↓vcA, vcB, ↓vcD, vcE, ↓reduceIte, Nat.reduceEqDiff, Nat.reduceAdd, Nat.reduceMul, Nat.reduceLeDiff, Int.reduceLE, Int.reduceLT, Int.reduceEq, Int.reduceToNat, Int.reduceAdd, Int.reduceSub, Int.reduceMul, Int.reduceNeg, reduceCtorEq, Option.bind_some, Option.map_some, List.length_cons, List.length_nil, vcM, List.getElem?_toArray, List.getElem?_cons_zero, List.getElem?_cons_succ, hb1, hb2, hof, e1, e2])
        refine ⟨f1, ?_⟩
        (refine W_at c38_ok ?_; refine ⟨_, rfl, ?_⟩; simp (disch := first | omega | assumption | rfl | (simp only [vcS] <;> omega) | fail) only [↓ptV_l, ↓vcA, vcB, ↓vcD, vcE, ↓reduceIte, Nat.reduceEqDiff, Nat.reduceAdd, Nat.reduceMul, Nat.reduceLeDiff, Int.reduceLE, Int.reduceLT, Int.reduceEq, Int.reduceToNat, Int.reduceAdd, Int.reduceSub, Int.reduceMul, Int.reduceNeg, reduceCtorEq, Option.bind_some, Option.map_some, List.length_cons, List.length_nil, vcM, List.getElem?_toArray, List.getElem?_cons_zero, List.getElem?_cons_succ, f2, Ret_returned])
        rw [hc]
        exact ⟨rfl, f3⟩
theorem rarm_ok (w : World) (sv qv : Value) (d : DS) (n : Int) (h : RD w sv qv d) :
    Calls Try.prog 27 #[rv sv qv d, .int .i64 n] w (Ret fun u w' => u = rv sv qv (armD d n) ∧ Ext w w') := by
  refine calls_of_cfg c27_ok (Nat.le_of_ble_eq_true rfl) ?_
  simp only [argE_nil, argE_cons, Nat.reduceAdd, Nat.zero_add]
  have hz4 : zc [(2, Value.slice none 0 0), (1, .int .i64 0), (1, .bool false)] = #[.slice none 0 0, .slice none 0 0, .int .i64 0, .bool false] := rfl
  have hfl : ∀ d : DS, flat (rcell sv qv d) := fun d => rc_flat (w := w) h.safe.one h.queue.one
  (refine W_at c27_ok ?_; refine ⟨_, rfl, ?_⟩; simp (disch := first | omega | assumption | rfl | (simp only [vcS] <;> omega) | fail) only [↓ptV_l, ↓vcA, vcB, ↓vcD, vcE, ↓reduceIte, Nat.reduceEqDiff, Nat.reduceAdd, Nat.reduceMul, Nat.reduceLeDiff, Int.reduceLE, Int.reduceLT, Int.reduceEq, Int.reduceToNat, Int.reduceAdd, Int.reduceSub, Int.reduceMul, Int.reduceNeg, reduceCtorEq, Option.bind_some, Option.map_some, List.length_cons, List.length_nil, vcM, List.getElem?_toArray, List.getElem?_cons_zero, List.getElem?_cons_succ, hz4])
  have hb1 : ((w.alloc (.cells (rv sv qv d).cells 30)).alloc (.cells #[.slice none 0 0, .slice none 0 0, .int .i64 0, .bool false] 30)).heap[w.heap.size]? = some (.cells (rcell sv qv d) 30 (0, 0)) := by
    rw [heap_old _ _ _ (by simp)]; exact rbox _
  have hb2 : ((w.alloc (.cells (rv sv qv d).cells 30)).alloc (.cells #[.slice none 0 0, .slice none 0 0, .int .i64 0, .bool false] 30)).heap[w.heap.size + 1]? = some (.cells #[.slice none 0 0, .slice none 0 0, .int .i64 0, .bool false] 30 (0, 0)) := heap_new _ _ _ (by simp)
  have hE : Ext w ((w.alloc (.cells (rv sv qv d).cells 30)).alloc (.cells #[.slice none 0 0, .slice none 0 0, .int .i64 0, .bool false] 30)) := ((Keep.refl _ w).alloc _).alloc _
  generalize World.alloc _ _ = w1 at hb1 hb2 hE ⊢
  have hn12 : w.heap.size ≠ w.heap.size + 1 := by omega
  generalize hp1 : w.heap.size = p1 at hb1 hb2 hn12 ⊢
  have hp1' : w.heap.size ≤ p1 := by omega
  generalize hp2 : p1 + 1 = p2 at hb2 hn12 ⊢
  have hof : okO (some (.cells #[.slice none 0 0, .slice none 0 0, .int .i64 0, .bool false] 30 (0, 0))) 0 4 = True := by simp [okO]
  have fin : ∀ (m : Int) (tl : Env), m = (armD d n).left → W Try.prog (Ret fun u w' => u = rv sv qv (armD d n) ∧ Ext w w') 27 3 ((1, .int .i64 m) :: (2, .pointer (some ⟨p1, 0, none⟩)) :: (4, .pointer (some ⟨p2, 0, none⟩)) :: tl) w1 := by
    intro m tl hm
    subst hm
    have k1 : Keep (fun k => k = p1) w1 (w1.setCell ⟨p1, 2, none⟩ (.int .i64 (armD d n).left)) := (Keep.refl _ w1).setCell _ fun _ => rfl
    have q1 : (w1.setCell ⟨p1, 2, none⟩ (.int .i64 (armD d n).left)).heap[p1]? = some (.cells (rcell sv qv (armD d n)) 30 (0, 0)) := by rw [heap_setCell_eq hb1, rc_set2]; rfl
    have q2 := k1.at hb2 (fun e => hn12 e.symm)
    have hE2 : Ext w (w1.setCell ⟨p1, 2, none⟩ (.int .i64 (armD d n).left)) := hE.trans k1 fun k hk e => by omega
    have e1 : (rcell sv qv (armD d n)).extract 0 (0 + 4) = rcell sv qv (armD d n) := rfl
    have e2 : (rcell sv qv (armD d n)).size = 4 := rfl
    (refine W_at c27_ok ?_; refine ⟨_, rfl, ?_⟩; simp (disch := first | omega | assumption | rfl | (simp only [vcS] <;> omega) | fail) only [↓ptV_l, ↓vcA, vcB, ↓vcD, vcE, ↓reduceIte, Nat.reduceEqDiff, Nat.reduceAdd, Nat.reduceMul, Nat.reduceLeDiff, Int.reduceLE, Int.reduceLT, Int.reduceEq, Int.reduceToNat, Int.reduceAdd, Int.reduceSub, Int.reduceMul, Int.reduceNeg, reduceCtorEq, Option.bind_some, Option.map_some, List.length_cons, List.length_nil, vcM, List.getElem?_toArray, List.getElem?_cons_zero, List.getElem?_cons_succ])
    refine ⟨wr1_of hb1 (by simp [rcell]), ?_⟩
    generalize World.setCell _ _ _ = w2 at q1 q2 hE2 ⊢
    have f2 : rdO (w2.putN p2 0 (rcell sv qv (armD d n))).heap[p2]? 0 4 = some (rcell sv qv (armD d n)) := by
      rw [heap_putN_eq q2, splice_all (by simp [rcell])]
      exact rdO_all _ _ _ _ rfl
    (refine W_at c27_ok ?_; refine ⟨_, rfl, ?_⟩; simp (disch := first | omega | assumption | rfl | (simp only [vcS] <;> omega) | fail) only [↓ptV_l, ↓vcA, vcB, ↓vcD, vcE, ↓reduceIte, Nat.reduceEqDiff, Nat.reduceAdd, Nat.reduceMul, Nat.reduceLeDiff, Int.reduceLE, Int.reduceLT, Int.reduceEq, Int.reduceToNat, Int.reduceAdd, Int.reduceSub, Int.reduceMul, Int.reduceNeg, reduceCtorEq, Option.bind_some, Option.map_some, List.length_cons, List.length_nil, vcM, List.getElem?_toArray, List.getElem?_cons_zero, List.getElem?_cons_succ, q1, q2, hof, e1, e2])
    refine ⟨hfl _, ?_⟩
    (refine W_at c27_ok ?_; refine ⟨_, rfl, ?_⟩; simp (disch := first | omega | assumption | rfl | (simp only [vcS] <;> omega) | fail) only [↓ptV_l, ↓vcA, vcB, ↓vcD, vcE, ↓reduceIte, Nat.reduceEqDiff, Nat.reduceAdd, Nat.reduceMul, Nat.reduceLeDiff, Int.reduceLE, Int.reduceLT, Int.reduceEq, Int.reduceToNat, Int.reduceAdd, Int.reduceSub, Int.reduceMul, Int.reduceNeg, reduceCtorEq, Option.bind_some, Option.map_some, List.length_cons, List.length_nil, vcM, List.getElem?_toArray, List.getElem?_cons_zero, List.getElem?_cons_succ, f2, Ret_returned])
    exact ⟨rfl, hE2.putN _ (by omega)⟩
  by_cases h0 : n < 0
  · (refine W_at c27_ok ?_; refine ⟨_, rfl, ?_⟩; simp (disch := first | omega | assumption | rfl | (simp only [vcS] <;> omega) | fail) only [↓ptV_l, ↓vcA, vcB, ↓vcD, vcE, ↓reduceIte, Nat.reduceEqDiff, Nat.reduceAdd, Nat.reduceMul, Nat.reduceLeDiff, Int.reduceLE, Int.reduceLT, Int.reduceEq, Int.reduceToNat, Int.reduceAdd, Int.reduceSub, Int.reduceMul, Int.reduceNeg, reduceCtorEq, Option.bind_some, Option.map_some, List.length_cons, List.length_nil, vcM, List.getElem?_toArray, List.getElem?_cons_zero, List.getElem?_cons_succ, h0])
    (refine W_at c27_ok ?_; refine ⟨_, rfl, ?_⟩; simp (disch := first | omega | assumption | rfl | (simp only [vcS] <;> omega) | fail) only [↓ptV_l, ↓vcA, vcB, ↓vcD, vcE, ↓reduceIte, Nat.reduceEqDiff, Nat.reduceAdd, Nat.reduceMul, Nat.reduceLeDiff, Int.reduceLE, Int.reduceLT, Int.reduceEq, Int.reduceToNat, Int.reduceAdd, Int.reduceSub, Int.reduceMul, Int.reduceNeg, reduceCtorEq, Option.bind_some, Option.map_some, List.length_cons, List.length_nil, vcM, List.getElem?_toArray, List.getElem?_cons_zero, List.getElem?_cons_succ])
    (refine W_at c27_ok ?_; refine ⟨_, rfl, ?_⟩; simp (disch := first | omega | assumption | rfl | (simp only [vcS] <;> omega) | fail) only [↓ptV_l, ↓vcA, vcB, ↓vcD, vcE, ↓reduceIte, Nat.reduceEqDiff, Nat.reduceAdd, Nat.reduceMul, Nat.reduceLeDiff, Int.reduceLE, Int.reduceLT, Int.reduceEq, Int.reduceToNat, Int.reduceAdd, Int.reduceSub, Int.reduceMul, Int.reduceNeg, reduceCtorEq, Option.bind_some, Option.map_some, List.length_cons, List.length_nil, vcM, List.getElem?_toArray, List.getElem?_cons_zero, List.getElem?_cons_succ])
    exact fin (-1) [] (by simp [armD, h0])
  · (refine W_at c27_ok ?_; refine ⟨_, rfl, ?_⟩; simp (disch := first | omega | assumption | rfl | (simp only [vcS] <;> omega) | fail) only [↓ptV_l, ↓vcA, vcB, ↓vcD, vcE, ↓reduceIte, Nat.reduceEqDiff, Nat.reduceAdd, Nat.reduceMul, Nat.reduceLeDiff, Int.reduceLE, Int.reduceLT, Int.reduceEq, Int.reduceToNat, Int.reduceAdd, Int.reduceSub, Int.reduceMul, Int.reduceNeg, reduceCtorEq, Option.bind_some, Option.map_some, List.length_cons, List.length_nil, vcM, List.getElem?_toArray, List.getElem?_cons_zero, List.getElem?_cons_succ, h0])
    (refine W_at c27_ok ?_; refine ⟨_, rfl, ?_⟩; simp (disch := first | omega | assumption | rfl | (simp only [vcS] <;> omega) | fail) only [↓ptV_l, ↓vcA, vcB, ↓vcD, vcE, ↓reduceIte, Nat.reduceEqDiff, Nat.reduceAdd, Nat.reduceMul, Nat.reduceLeDiff, Int.reduceLE, Int.reduceLT, Int.reduceEq, Int.reduceToNat, Int.reduceAdd, Int.reduceSub, Int.reduceMul, Int.reduceNeg, reduceCtorEq, Option.bind_some, Option.map_some, List.length_cons, List.length_nil, vcM, List.getElem?_toArray, List.getElem?_cons_zero, List.getElem?_cons_succ])
    exact fin n _ (by simp [armD, h0])
end Go.Proofs
