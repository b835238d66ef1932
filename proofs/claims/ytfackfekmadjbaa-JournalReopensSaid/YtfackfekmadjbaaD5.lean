/- What a disk writes. -/
import Derived.Test.YtfackfekmadjbaaD4
set_option linter.unusedSimpArgs false
set_option linter.unusedVariables false
set_option linter.constructorNameAsVariable false
namespace Go.Proofs
open Go.Vc
set_option maxRecDepth 10000

theorem getM_cons (k : Int) (p : IE) (l : List IE) : getM k (p :: l) = if k = p.1 then some p.2 else getM k l := by
  unfold getM
  rw [idxM]
  split
  · rfl
  · cases idxM k l <;> simp
theorem putM_cons (k : Int) (v : Value) (p : IE) (l : List IE) : putM k v (p :: l) = if k = p.1 then (k, v) :: l else p :: putM k v l := by
  unfold putM
  rw [idxM]
  by_cases h : k = p.1
  · rw [if_pos h, if_pos h]; rfl
  · rw [if_neg h, if_neg h]
    cases idxM k l <;> simp
theorem getM_put (k a : Int) (v : Value) : ∀ l : List IE, getM k (putM a v l) = if k = a then some v else getM k l
  | [] => by
    have : putM a v [] = [(a, v)] := rfl
    rw [this, getM_cons]
  | p :: l => by
    rw [putM_cons]
    split
    · rename_i h
      rw [getM_cons, getM_cons, ← h]
      split
      · rfl
      · rfl
    · rename_i h
      rw [getM_cons, getM_cons, getM_put k a v l]
      by_cases hk : k = p.1
      · rw [if_pos hk, if_pos hk, if_neg (by rw [hk]; exact fun e => h e.symm)]
      · rw [if_neg hk, if_neg hk]
def setS (s : Int → Sec) (a : Int) (x : Sec) : Int → Sec := fun k => if k = a then x else s k
def settleF (s : Int → Sec) (l : List Wr) : Int → Sec := l.foldl (fun s x => setS s x.1 x.2) s
theorem spliceA_nil (c : Array Value) (o : Nat) : spliceA c o #[] = c := by
  apply Array.ext'
  simp [spliceA]
/-- 'copy' into a part of a block. -/
theorem cpy_in {w : World} {b o n cap : Nat} {x : Value} {bs : List Int} {cur : Array Value} {t : TypeId} {K : Value → World → Prop} (hb : w.heap[b]? = some (.cells cur t (0, 0))) (ho : o + n ≤ cur.size) (hx : Rd w x bs) (hl : bs.length ≤ n)
    (hk : ∀ w', w'.heap[b]? = some (.cells (spliceA cur o (bv bs).toArray) t (0, 0)) → Keep (fun k => k = b) w w' → K (.int .i64 (bs.length : Nat)) w') : cpyV 1 (.slice (some ⟨b, o, none⟩) n cap) x w K := by
  obtain ⟨⟨q, c, rfl, hc⟩, hm, hr⟩ := hx
  have hmin : Nat.min bs.length n = bs.length := Nat.min_eq_left hl
  unfold cpyV
  simp only [hmin, hr, getV_some, Nat.mul_one]
  refine ⟨bv_flat bs, fun h0 => ?_, fun h0 => ⟨b, o, rfl, okN_of hb (by omega), hk _ (heap_putN_eq hb) ((Keep.refl _ w).putN _ fun _ => rfl)⟩⟩
  have : bs = [] := List.eq_nil_of_length_eq_zero h0
  subst this
  refine hk w ?_ (Keep.refl _ w)
  rw [hb]
  have e : (bv []).toArray = (#[] : Array Value) := rfl
  rw [e, spliceA_nil]
def padS (bs : List Int) : Sec := bs ++ List.replicate (64 - bs.length) 0
theorem padS_ok {bs : List Int} (h : byt bs) (hl : bs.length ≤ 64) : secOK (padS bs) :=
  ⟨by simp [padS]; omega, byt_app h fun z hz => by simp at hz; omega⟩
theorem pad_cells (i : Int) (bs : List Int) (hl : bs.length ≤ 64) : spliceA (wcell (i, zsec)) 1 (bv bs).toArray = wcell (i, padS bs) := by
  apply Array.ext'
  have e : bv zsec = List.replicate 64 (.int .u8 0) := by simp [bv, zsec]
  have e2 : bv (List.replicate (64 - bs.length) (0 : Int)) = List.replicate (64 - bs.length) (.int .u8 0) := by simp [bv]
  simp only [spliceA, wcell, padS, bv_app, e, e2, List.take_succ_cons, List.take_zero, List.size_toArray, bv_len, Nat.add_comm 1, List.drop_succ_cons, List.drop_replicate, List.cons_append, List.nil_append]
def writeD (d : DS) (i : Int) (bs : List Int) : DS × Int :=
  if thereB d.n i then (if 64 < bs.length then (d, 2) else if (callD d).2 then ({ (callD d).1 with queue := d.queue ++ [(i, padS bs)] }, 0) else ((callD d).1, 10)) else (d, 1)
theorem callD_q (d : DS) : (callD d).1.queue = d.queue ∧ (callD d).1.n = d.n ∧ (callD d).1.safe = d.safe := by
  unfold callD; split
  · exact ⟨rfl, rfl, rfl⟩
  · split
    · exact ⟨rfl, rfl, rfl⟩
    · split <;> exact ⟨rfl, rfl, rfl⟩
/-- What an act on a disk leaves. -/
def DTo (w w' : World) (p r : Nat) (qv : Value) (d' : DS) : Prop := ∃ qv', DAt w' p r qv' d' ∧ Keep (DB p r qv) w w' ∧ ∀ g, blk qv' g → blk qv g ∨ w.heap.size ≤ g
theorem DTo.same {w w' : World} {p r : Nat} {qv : Value} {d' : DS} (h : DAt w' p r qv d') (k : Keep (DB p r qv) w w') : DTo w w' p r qv d' := ⟨qv, h, k, fun _ h => .inl h⟩
theorem one_lt {l : List Wr} {n : Nat} (h : l.length = n) : (l.map wcell).length = n := by rw [List.length_map, h]
set_option maxHeartbeats 1600000 in
theorem write_ok (w : World) (p r : Nat) (qv : Value) (d : DS) (i : Int) (x : Value) (bs : List Int) (h : DAt w p r qv d) (hd : d.Ok) (hq : d.queue.length < 1000000) (hx : Rd w x bs) (hxd : ∀ q n c, x = .slice (some q) n c → ¬ DB p r qv q.block) (hlb : bs.length ≤ 1000000000) :
    Calls Try.prog 36 #[.pointer (some ⟨p, 0, none⟩), .int .i64 i, x] w (Ret fun u w' => u = .int .i64 (writeD d i bs).2 ∧ DTo w w' p r qv (writeD d i bs).1) := by
  refine calls_of_cfg c36_ok (Nat.le_of_ble_eq_true rfl) ?_
  simp only [argE_nil, argE_cons, Nat.reduceAdd, Nat.zero_add]
  have hlen := hx.len
  (refine W_at c36_ok ?_; refine ⟨_, rfl, ?_⟩; simp (disch := first | omega | assumption | rfl | (simp only [vcS] <;> omega) | fail) only [↓ptV_l, ↓vcA, vcB, ↓vcD, vcE, ↓reduceIte, Nat.reduceEqDiff, Nat.reduceAdd, Nat.reduceMul, Nat.reduceLeDiff, Int.reduceLE, Int.reduceLT, Int.reduceEq, Int.reduceToNat, Int.reduceAdd, Int.reduceSub, Int.reduceMul, Int.reduceNeg, reduceCtorEq, Option.bind_some, Option.map_some, List.length_cons, List.length_nil, vcM, List.getElem?_toArray, List.getElem?_cons_zero, List.getElem?_cons_succ])
  (refine W_at c36_ok ?_; refine ⟨_, rfl, ?_⟩; simp (disch := first | omega | assumption | rfl | (simp only [vcS] <;> omega) | fail) only [↓ptV_l, ↓vcA, vcB, ↓vcD, vcE, ↓reduceIte, Nat.reduceEqDiff, Nat.reduceAdd, Nat.reduceMul, Nat.reduceLeDiff, Int.reduceLE, Int.reduceLT, Int.reduceEq, Int.reduceToNat, Int.reduceAdd, Int.reduceSub, Int.reduceMul, Int.reduceNeg, reduceCtorEq, Option.bind_some, Option.map_some, List.length_cons, List.length_nil, vcM, List.getElem?_toArray, List.getElem?_cons_zero, List.getElem?_cons_succ])
  refine callV_ret (there_ok w p r qv d i h) ?_
  rintro _ wq ⟨rfl, hw⟩
  obtain rfl : w = wq := hw.symm
  first | (simp (disch := first | omega | assumption | rfl | (simp only [vcS] <;> omega) | fail) only [↓ptV_l, ↓vcA, vcB, ↓vcD, vcE, ↓reduceIte, Nat.reduceEqDiff, Nat.reduceAdd, Nat.reduceMul, Nat.reduceLeDiff, Int.reduceLE, Int.reduceLT, Int.reduceEq, Int.reduceToNat, Int.reduceAdd, Int.reduceSub, Int.reduceMul, Int.reduceNeg, reduceCtorEq, Option.bind_some, Option.map_some, List.length_cons, List.length_nil, vcM, List.getElem?_toArray, List.getElem?_cons_zero, List.getElem?_cons_succ]) | skip
  cases ht : thereB d.n i with
  | false =>
    have he : writeD d i bs = (d, 1) := by rw [writeD, ht]; rfl
    (refine W_at c36_ok ?_; refine ⟨_, rfl, ?_⟩; simp (disch := first | omega | assumption | rfl | (simp only [vcS] <;> omega) | fail) only [↓ptV_l, ↓vcA, vcB, ↓vcD, vcE, ↓reduceIte, Nat.reduceEqDiff, Nat.reduceAdd, Nat.reduceMul, Nat.reduceLeDiff, Int.reduceLE, Int.reduceLT, Int.reduceEq, Int.reduceToNat, Int.reduceAdd, Int.reduceSub, Int.reduceMul, Int.reduceNeg, reduceCtorEq, Option.bind_some, Option.map_some, List.length_cons, List.length_nil, vcM, List.getElem?_toArray, List.getElem?_cons_zero, List.getElem?_cons_succ])
    (refine W_at c36_ok ?_; refine ⟨_, rfl, ?_⟩; simp (disch := first | omega | assumption | rfl | (simp only [vcS] <;> omega) | fail) only [↓ptV_l, ↓vcA, vcB, ↓vcD, vcE, ↓reduceIte, Nat.reduceEqDiff, Nat.reduceAdd, Nat.reduceMul, Nat.reduceLeDiff, Int.reduceLE, Int.reduceLT, Int.reduceEq, Int.reduceToNat, Int.reduceAdd, Int.reduceSub, Int.reduceMul, Int.reduceNeg, reduceCtorEq, Option.bind_some, Option.map_some, List.length_cons, List.length_nil, vcM, List.getElem?_toArray, List.getElem?_cons_zero, List.getElem?_cons_succ])
    (refine W_at c36_ok ?_; refine ⟨_, rfl, ?_⟩; simp (disch := first | omega | assumption | rfl | (simp only [vcS] <;> omega) | fail) only [↓ptV_l, ↓vcA, vcB, ↓vcD, vcE, ↓reduceIte, Nat.reduceEqDiff, Nat.reduceAdd, Nat.reduceMul, Nat.reduceLeDiff, Int.reduceLE, Int.reduceLT, Int.reduceEq, Int.reduceToNat, Int.reduceAdd, Int.reduceSub, Int.reduceMul, Int.reduceNeg, reduceCtorEq, Option.bind_some, Option.map_some, List.length_cons, List.length_nil, vcM, List.getElem?_toArray, List.getElem?_cons_zero, List.getElem?_cons_succ, Ret_returned])
    rw [he]
    exact ⟨rfl, DTo.same h (Keep.refl _ w)⟩
  | true =>
  (refine W_at c36_ok ?_; refine ⟨_, rfl, ?_⟩; simp (disch := first | omega | assumption | rfl | (simp only [vcS] <;> omega) | fail) only [↓ptV_l, ↓vcA, vcB, ↓vcD, vcE, ↓reduceIte, Nat.reduceEqDiff, Nat.reduceAdd, Nat.reduceMul, Nat.reduceLeDiff, Int.reduceLE, Int.reduceLT, Int.reduceEq, Int.reduceToNat, Int.reduceAdd, Int.reduceSub, Int.reduceMul, Int.reduceNeg, reduceCtorEq, Option.bind_some, Option.map_some, List.length_cons, List.length_nil, vcM, List.getElem?_toArray, List.getElem?_cons_zero, List.getElem?_cons_succ])
  by_cases h64 : ((bs.length : Nat) : Int) > 64
  · have he : writeD d i bs = (d, 2) := by rw [writeD, ht, if_pos rfl, if_pos (by omega)]
    (refine W_at c36_ok ?_; refine ⟨_, rfl, ?_⟩; simp (disch := first | omega | assumption | rfl | (simp only [vcS] <;> omega) | fail) only [↓ptV_l, ↓vcA, vcB, ↓vcD, vcE, ↓reduceIte, Nat.reduceEqDiff, Nat.reduceAdd, Nat.reduceMul, Nat.reduceLeDiff, Int.reduceLE, Int.reduceLT, Int.reduceEq, Int.reduceToNat, Int.reduceAdd, Int.reduceSub, Int.reduceMul, Int.reduceNeg, reduceCtorEq, Option.bind_some, Option.map_some, List.length_cons, List.length_nil, vcM, List.getElem?_toArray, List.getElem?_cons_zero, List.getElem?_cons_succ, hlen, h64])
    (refine W_at c36_ok ?_; refine ⟨_, rfl, ?_⟩; simp (disch := first | omega | assumption | rfl | (simp only [vcS] <;> omega) | fail) only [↓ptV_l, ↓vcA, vcB, ↓vcD, vcE, ↓reduceIte, Nat.reduceEqDiff, Nat.reduceAdd, Nat.reduceMul, Nat.reduceLeDiff, Int.reduceLE, Int.reduceLT, Int.reduceEq, Int.reduceToNat, Int.reduceAdd, Int.reduceSub, Int.reduceMul, Int.reduceNeg, reduceCtorEq, Option.bind_some, Option.map_some, List.length_cons, List.length_nil, vcM, List.getElem?_toArray, List.getElem?_cons_zero, List.getElem?_cons_succ])
    (refine W_at c36_ok ?_; refine ⟨_, rfl, ?_⟩; simp (disch := first | omega | assumption | rfl | (simp only [vcS] <;> omega) | fail) only [↓ptV_l, ↓vcA, vcB, ↓vcD, vcE, ↓reduceIte, Nat.reduceEqDiff, Nat.reduceAdd, Nat.reduceMul, Nat.reduceLeDiff, Int.reduceLE, Int.reduceLT, Int.reduceEq, Int.reduceToNat, Int.reduceAdd, Int.reduceSub, Int.reduceMul, Int.reduceNeg, reduceCtorEq, Option.bind_some, Option.map_some, List.length_cons, List.length_nil, vcM, List.getElem?_toArray, List.getElem?_cons_zero, List.getElem?_cons_succ])
    (refine W_at c36_ok ?_; refine ⟨_, rfl, ?_⟩; simp (disch := first | omega | assumption | rfl | (simp only [vcS] <;> omega) | fail) only [↓ptV_l, ↓vcA, vcB, ↓vcD, vcE, ↓reduceIte, Nat.reduceEqDiff, Nat.reduceAdd, Nat.reduceMul, Nat.reduceLeDiff, Int.reduceLE, Int.reduceLT, Int.reduceEq, Int.reduceToNat, Int.reduceAdd, Int.reduceSub, Int.reduceMul, Int.reduceNeg, reduceCtorEq, Option.bind_some, Option.map_some, List.length_cons, List.length_nil, vcM, List.getElem?_toArray, List.getElem?_cons_zero, List.getElem?_cons_succ, Ret_returned])
    rw [he]
    exact ⟨rfl, DTo.same h (Keep.refl _ w)⟩
  (refine W_at c36_ok ?_; refine ⟨_, rfl, ?_⟩; simp (disch := first | omega | assumption | rfl | (simp only [vcS] <;> omega) | fail) only [↓ptV_l, ↓vcA, vcB, ↓vcD, vcE, ↓reduceIte, Nat.reduceEqDiff, Nat.reduceAdd, Nat.reduceMul, Nat.reduceLeDiff, Int.reduceLE, Int.reduceLT, Int.reduceEq, Int.reduceToNat, Int.reduceAdd, Int.reduceSub, Int.reduceMul, Int.reduceNeg, reduceCtorEq, Option.bind_some, Option.map_some, List.length_cons, List.length_nil, vcM, List.getElem?_toArray, List.getElem?_cons_zero, List.getElem?_cons_succ, hlen, h64])
  (refine W_at c36_ok ?_; refine ⟨_, rfl, ?_⟩; simp (disch := first | omega | assumption | rfl | (simp only [vcS] <;> omega) | fail) only [↓ptV_l, ↓vcA, vcB, ↓vcD, vcE, ↓reduceIte, Nat.reduceEqDiff, Nat.reduceAdd, Nat.reduceMul, Nat.reduceLeDiff, Int.reduceLE, Int.reduceLT, Int.reduceEq, Int.reduceToNat, Int.reduceAdd, Int.reduceSub, Int.reduceMul, Int.reduceNeg, reduceCtorEq, Option.bind_some, Option.map_some, List.length_cons, List.length_nil, vcM, List.getElem?_toArray, List.getElem?_cons_zero, List.getElem?_cons_succ])
  (refine W_at c36_ok ?_; refine ⟨_, rfl, ?_⟩; simp (disch := first | omega | assumption | rfl | (simp only [vcS] <;> omega) | fail) only [↓ptV_l, ↓vcA, vcB, ↓vcD, vcE, ↓reduceIte, Nat.reduceEqDiff, Nat.reduceAdd, Nat.reduceMul, Nat.reduceLeDiff, Int.reduceLE, Int.reduceLT, Int.reduceEq, Int.reduceToNat, Int.reduceAdd, Int.reduceSub, Int.reduceMul, Int.reduceNeg, reduceCtorEq, Option.bind_some, Option.map_some, List.length_cons, List.length_nil, vcM, List.getElem?_toArray, List.getElem?_cons_zero, List.getElem?_cons_succ])
  refine callV_ret (burn_ok w p r qv d h hd.left) ?_
  rintro _ w1 ⟨rfl, hD1, hk1⟩
  have hk1' : Keep (DB p r qv) w w1 := hk1.mono fun k e => .inl e
  first | (simp (disch := first | omega | assumption | rfl | (simp only [vcS] <;> omega) | fail) only [↓ptV_l, ↓vcA, vcB, ↓vcD, vcE, ↓reduceIte, Nat.reduceEqDiff, Nat.reduceAdd, Nat.reduceMul, Nat.reduceLeDiff, Int.reduceLE, Int.reduceLT, Int.reduceEq, Int.reduceToNat, Int.reduceAdd, Int.reduceSub, Int.reduceMul, Int.reduceNeg, reduceCtorEq, Option.bind_some, Option.map_some, List.length_cons, List.length_nil, vcM, List.getElem?_toArray, List.getElem?_cons_zero, List.getElem?_cons_succ]) | skip
  cases hc : (callD d).2 with
  | false =>
    have he : writeD d i bs = ((callD d).1, 10) := by rw [writeD, ht, if_pos rfl, if_neg (by omega), hc]; rfl
    simp only [Bool.false_eq_true, if_false]
    (refine W_at c36_ok ?_; refine ⟨_, rfl, ?_⟩; simp (disch := first | omega | assumption | rfl | (simp only [vcS] <;> omega) | fail) only [↓ptV_l, ↓vcA, vcB, ↓vcD, vcE, ↓reduceIte, Nat.reduceEqDiff, Nat.reduceAdd, Nat.reduceMul, Nat.reduceLeDiff, Int.reduceLE, Int.reduceLT, Int.reduceEq, Int.reduceToNat, Int.reduceAdd, Int.reduceSub, Int.reduceMul, Int.reduceNeg, reduceCtorEq, Option.bind_some, Option.map_some, List.length_cons, List.length_nil, vcM, List.getElem?_toArray, List.getElem?_cons_zero, List.getElem?_cons_succ])
    (refine W_at c36_ok ?_; refine ⟨_, rfl, ?_⟩; simp (disch := first | omega | assumption | rfl | (simp only [vcS] <;> omega) | fail) only [↓ptV_l, ↓vcA, vcB, ↓vcD, vcE, ↓reduceIte, Nat.reduceEqDiff, Nat.reduceAdd, Nat.reduceMul, Nat.reduceLeDiff, Int.reduceLE, Int.reduceLT, Int.reduceEq, Int.reduceToNat, Int.reduceAdd, Int.reduceSub, Int.reduceMul, Int.reduceNeg, reduceCtorEq, Option.bind_some, Option.map_some, List.length_cons, List.length_nil, vcM, List.getElem?_toArray, List.getElem?_cons_zero, List.getElem?_cons_succ])
    (refine W_at c36_ok ?_; refine ⟨_, rfl, ?_⟩; simp (disch := first | omega | assumption | rfl | (simp only [vcS] <;> omega) | fail) only [↓ptV_l, ↓vcA, vcB, ↓vcD, vcE, ↓reduceIte, Nat.reduceEqDiff, Nat.reduceAdd, Nat.reduceMul, Nat.reduceLeDiff, Int.reduceLE, Int.reduceLT, Int.reduceEq, Int.reduceToNat, Int.reduceAdd, Int.reduceSub, Int.reduceMul, Int.reduceNeg, reduceCtorEq, Option.bind_some, Option.map_some, List.length_cons, List.length_nil, vcM, List.getElem?_toArray, List.getElem?_cons_zero, List.getElem?_cons_succ])
    (refine W_at c36_ok ?_; refine ⟨_, rfl, ?_⟩; simp (disch := first | omega | assumption | rfl | (simp only [vcS] <;> omega) | fail) only [↓ptV_l, ↓vcA, vcB, ↓vcD, vcE, ↓reduceIte, Nat.reduceEqDiff, Nat.reduceAdd, Nat.reduceMul, Nat.reduceLeDiff, Int.reduceLE, Int.reduceLT, Int.reduceEq, Int.reduceToNat, Int.reduceAdd, Int.reduceSub, Int.reduceMul, Int.reduceNeg, reduceCtorEq, Option.bind_some, Option.map_some, List.length_cons, List.length_nil, vcM, List.getElem?_toArray, List.getElem?_cons_zero, List.getElem?_cons_succ, Ret_returned])
    rw [he]
    exact ⟨rfl, DTo.same hD1 hk1'⟩
  | true =>
  have he : writeD d i bs = ({ (callD d).1 with queue := d.queue ++ [(i, padS bs)] }, 0) := by rw [writeD, ht, if_pos rfl, if_neg (by omega), hc]; rfl
  obtain ⟨cq, cn, cs⟩ := callD_q d
  simp only [if_true]
  (refine W_at c36_ok ?_; refine ⟨_, rfl, ?_⟩; simp (disch := first | omega | assumption | rfl | (simp only [vcS] <;> omega) | fail) only [↓ptV_l, ↓vcA, vcB, ↓vcD, vcE, ↓reduceIte, Nat.reduceEqDiff, Nat.reduceAdd, Nat.reduceMul, Nat.reduceLeDiff, Int.reduceLE, Int.reduceLT, Int.reduceEq, Int.reduceToNat, Int.reduceAdd, Int.reduceSub, Int.reduceMul, Int.reduceNeg, reduceCtorEq, Option.bind_some, Option.map_some, List.length_cons, List.length_nil, vcM, List.getElem?_toArray, List.getElem?_cons_zero, List.getElem?_cons_succ])
  (refine W_at c36_ok ?_; refine ⟨_, rfl, ?_⟩; simp (disch := first | omega | assumption | rfl | (simp only [vcS] <;> omega) | fail) only [↓ptV_l, ↓vcA, vcB, ↓vcD, vcE, ↓reduceIte, Nat.reduceEqDiff, Nat.reduceAdd, Nat.reduceMul, Nat.reduceLeDiff, Int.reduceLE, Int.reduceLT, Int.reduceEq, Int.reduceToNat, Int.reduceAdd, Int.reduceSub, Int.reduceMul, Int.reduceNeg, reduceCtorEq, Option.bind_some, Option.map_some, List.length_cons, List.length_nil, vcM, List.getElem?_toArray, List.getElem?_cons_zero, List.getElem?_cons_succ])
  have hx1 := hx.keep hk1' hxd
  have hz65 : (zc [(1, Value.int .i64 0), (64, Value.int .u8 0)]).size = 65 := rfl
  have hwz : (#[Value.int .i64 i] ++ zc [(64, Value.int .u8 0)] : Array Value) = wcell (i, zsec) := by
    have hz : zc [(64, Value.int .u8 0)] = (bv zsec).toArray := rfl
    rw [hz, wcell]
    simp only [List.append_toArray, List.cons_append, List.nil_append]
  have hwz2 := wcell_size (x := (i, zsec)) zsec_ok.1
  (refine W_at c36_ok ?_; refine ⟨_, rfl, ?_⟩; simp (disch := first | omega | assumption | rfl | (simp only [vcS] <;> omega) | fail) only [↓ptV_l, ↓vcA, vcB, ↓vcD, vcE, ↓reduceIte, Nat.reduceEqDiff, Nat.reduceAdd, Nat.reduceMul, Nat.reduceLeDiff, Int.reduceLE, Int.reduceLT, Int.reduceEq, Int.reduceToNat, Int.reduceAdd, Int.reduceSub, Int.reduceMul, Int.reduceNeg, reduceCtorEq, Option.bind_some, Option.map_some, List.length_cons, List.length_nil, vcM, List.getElem?_toArray, List.getElem?_cons_zero, List.getElem?_cons_succ, hwz, hwz2])
  refine ⟨wcell_flat _, ?_⟩
  have hb8 : ((w1.alloc (.cells (zc [(1, .int .i64 0), (64, .int .u8 0)]) 77)).putN w1.heap.size 0 (wcell (i, zsec))).heap[w1.heap.size]? = some (.cells (wcell (i, zsec)) 77 (0, 0)) := by
    rw [heap_putN_eq (heap_new _ _ _ rfl), splice_all (by rw [hz65, hwz2])]
  have hE2 : Ext w1 ((w1.alloc (.cells (zc [(1, .int .i64 0), (64, .int .u8 0)]) 77)).putN w1.heap.size 0 (wcell (i, zsec))) := ((Keep.refl _ w1).alloc _).putN _ (by intro hh; exfalso; omega)
  generalize World.putN _ _ _ _ = w2 at hb8 hE2 ⊢
  generalize hb8n : w1.heap.size = b8 at hb8 ⊢
  (refine W_at c36_ok ?_; refine ⟨_, rfl, ?_⟩; simp (disch := first | omega | assumption | rfl | (simp only [vcS] <;> omega) | fail) only [↓ptV_l, ↓vcA, vcB, ↓vcD, vcE, ↓reduceIte, Nat.reduceEqDiff, Nat.reduceAdd, Nat.reduceMul, Nat.reduceLeDiff, Int.reduceLE, Int.reduceLT, Int.reduceEq, Int.reduceToNat, Int.reduceAdd, Int.reduceSub, Int.reduceMul, Int.reduceNeg, reduceCtorEq, Option.bind_some, Option.map_some, List.length_cons, List.length_nil, vcM, List.getElem?_toArray, List.getElem?_cons_zero, List.getElem?_cons_succ, advA_0])
  refine cpy_in hb8 (by omega) (hx1.ext hE2) (by omega) fun w3 hb3 hk3 => ?_
  rw [pad_cells i bs (by omega)] at hb3
  have hE3 : Ext w1 w3 := hE2.trans hk3 fun k hk e => by omega
  first | (simp (disch := first | omega | assumption | rfl | (simp only [vcS] <;> omega) | fail) only [↓ptV_l, ↓vcA, vcB, ↓vcD, vcE, ↓reduceIte, Nat.reduceEqDiff, Nat.reduceAdd, Nat.reduceMul, Nat.reduceLeDiff, Int.reduceLE, Int.reduceLT, Int.reduceEq, Int.reduceToNat, Int.reduceAdd, Int.reduceSub, Int.reduceMul, Int.reduceNeg, reduceCtorEq, Option.bind_some, Option.map_some, List.length_cons, List.length_nil, vcM, List.getElem?_toArray, List.getElem?_cons_zero, List.getElem?_cons_succ]) | skip
  have hD3 := hD1.ext hE3
  obtain ⟨f, a, h1, h2⟩ := hD3.obj
  have hne := hD3.ne
  have hdd : (callD d).1.dead = false := by
    unfold callD at hc ⊢
    split at hc
    · cases hc
    · rename_i hdd
      split at hc
      · cases hc
      · split at hc
        · rename_i e1 e2; rw [if_neg hdd, if_neg e1, if_pos e2]; simpa using hdd
        · rename_i e1 e2; rw [if_neg hdd, if_neg e1, if_neg e2]; simpa using hdd
  have hqv1 := hD3.queue.one
  have h65 : (wcell (i, padS bs)).size = 65 := wcell_size (by have := hx.mx; simp [padS]; omega)
  have hx65 : (wcell (i, padS bs)).extract 0 (0 + 65) = wcell (i, padS bs) := by rw [Nat.zero_add]; exact ext_all _ _ h65
  have hcl : (Value.agg (wcell (i, padS bs))).cells = wcell (i, padS bs) := rfl
  have hA : ∀ o, (w3.drew.alloc o).heap[p]? = some (.cells #[.int .i64 ((callD d).1.n : Nat), .map (some r), qv, .int .i64 f, .bool a, .bool (callD d).1.dead] 58 (0, 0)) := fun o => (show Ext w3 (w3.drew.alloc o) from (Keep.refl _ w3).drew.alloc o).at h1 (fun h => h)
  (refine W_at c36_ok ?_; refine ⟨_, rfl, ?_⟩; simp (disch := first | omega | assumption | rfl | (simp only [vcS] <;> omega) | fail) only [↓ptV_l, ↓vcA, vcB, ↓vcD, vcE, ↓reduceIte, Nat.reduceEqDiff, Nat.reduceAdd, Nat.reduceMul, Nat.reduceLeDiff, Int.reduceLE, Int.reduceLT, Int.reduceEq, Int.reduceToNat, Int.reduceAdd, Int.reduceSub, Int.reduceMul, Int.reduceNeg, reduceCtorEq, Option.bind_some, Option.map_some, List.length_cons, List.length_nil, vcM, List.getElem?_toArray, List.getElem?_cons_zero, List.getElem?_cons_succ, h1, hb3, h65, hx65, hcl, hA])
  simp only [List.append_nil]
  have hq3 : OwnO w3.drew 0 77 65 qv (d.queue.map wcell) := by have := hD3.queue.ext (Keep.refl _ w3).drew; rw [cq] at this; exact this
  have hel : ∀ k ∈ (wcell (i, padS bs)).toList, True := fun _ _ => trivial
  refine appO (w := w3.drew) hq3 (by rw [Array.length_toList]; exact h65) (by rw [Array.toArray_toList]; exact wcell_flat _) (by rw [qlen]; omega) (by rw [qlen]; omega) rfl (Nat.zero_le _) (by omega) fun qv' w4 k1 k2 k3 => ?_
  rw [Array.toArray_toList] at k1
  have hp4 : w4.heap[p]? = some (.cells #[.int .i64 ((callD d).1.n : Nat), .map (some r), qv, .int .i64 f, .bool a, .bool (callD d).1.dead] 58 (0, 0)) := k2.at (show w3.drew.heap[p]? = _ from h1) hne.2.1
  refine ⟨k1.one, wr1_of hp4 (by simp), ?_⟩
  have hp5 : (w4.setCell ⟨p, 2, none⟩ qv').heap[p]? = some (.cells #[.int .i64 ((callD d).1.n : Nat), .map (some r), qv', .int .i64 f, .bool a, .bool (callD d).1.dead] 58 (0, 0)) := by rw [heap_setCell_eq hp4]; rfl
  have hk5 : Keep (fun k => k = p) w4 (w4.setCell ⟨p, 2, none⟩ qv') := (Keep.refl _ w4).setCell _ fun _ => rfl
  (refine W_at c36_ok ?_; refine ⟨_, rfl, ?_⟩; simp (disch := first | omega | assumption | rfl | (simp only [vcS] <;> omega) | fail) only [↓ptV_l, ↓vcA, vcB, ↓vcD, vcE, ↓reduceIte, Nat.reduceEqDiff, Nat.reduceAdd, Nat.reduceMul, Nat.reduceLeDiff, Int.reduceLE, Int.reduceLT, Int.reduceEq, Int.reduceToNat, Int.reduceAdd, Int.reduceSub, Int.reduceMul, Int.reduceNeg, reduceCtorEq, Option.bind_some, Option.map_some, List.length_cons, List.length_nil, vcM, List.getElem?_toArray, List.getElem?_cons_zero, List.getElem?_cons_succ])
  (refine W_at c36_ok ?_; refine ⟨_, rfl, ?_⟩; simp (disch := first | omega | assumption | rfl | (simp only [vcS] <;> omega) | fail) only [↓ptV_l, ↓vcA, vcB, ↓vcD, vcE, ↓reduceIte, Nat.reduceEqDiff, Nat.reduceAdd, Nat.reduceMul, Nat.reduceLeDiff, Int.reduceLE, Int.reduceLT, Int.reduceEq, Int.reduceToNat, Int.reduceAdd, Int.reduceSub, Int.reduceMul, Int.reduceNeg, reduceCtorEq, Option.bind_some, Option.map_some, List.length_cons, List.length_nil, vcM, List.getElem?_toArray, List.getElem?_cons_zero, List.getElem?_cons_succ, Ret_returned])
  rw [he]
  have hk35 : Keep (fun k => k = p ∨ blk qv k) w3 (w4.setCell ⟨p, 2, none⟩ qv') := (((show Ext w3 w3.drew from (Keep.refl _ w3).drew).mono (fun _ h => h.elim)).trans k2 (fun _ _ h => .inr h)).trans hk5 (fun _ _ h => .inl h)
  have hk15 : Keep (DB p r qv) w1 (w4.setCell ⟨p, 2, none⟩ qv') := (hE3.mono (fun _ h => h.elim)).trans hk35 fun k _ h => h.elim .inl fun h => .inr (.inr h)
  obtain ⟨l, m1, m2⟩ := hD3.map
  refine ⟨rfl, qv', ⟨⟨f, a, hp5, h2⟩, ⟨l, m1.keep hk35 fun h => h.elim (fun e => hne.1 e.symm) hne.2.2, m2⟩, ?_⟩, hk1'.trans hk15 fun _ _ h => h, fun g hg => ?_⟩
  · show OwnO _ _ _ _ qv' (List.map wcell (d.queue ++ [(i, padS bs)]))
    rw [List.map_append]
    refine k1.keep hk5 fun g hg e => ?_
    subst e
    obtain ⟨_, c', e'⟩ := k1.blk hg
    rw [hp4] at e'; cases e'
  · rcases k3 g hg with h6 | h6
    · exact .inl h6
    · refine .inr ?_
      have h7 : w3.heap.size ≤ g := h6
      have := hk1.size
      have := hE3.size
      omega
theorem callD_ok {d : DS} (h : d.Ok) : (callD d).1.Ok := by
  obtain ⟨e1, e2, e3⟩ := callD_q d
  refine ⟨by rw [e2]; exact h.n, by rw [e3]; exact h.safe, by rw [e1, e2]; exact h.queue, by rw [e1]; exact h.len, ?_⟩
  have := h.left
  unfold callD
  split
  · exact this
  · split
    · exact this
    · split
      · constructor
        · show -1 ≤ d.left - 1; omega
        · show d.left - 1 ≤ _; omega
      · exact this
theorem thereB_iff {n : Nat} {i : Int} : thereB n i = true ↔ 0 ≤ i ∧ i < (n : Nat) := by simp [thereB]
theorem writeD_ok {d : DS} (h : d.Ok) (hq : d.queue.length < 1000000) {i : Int} {bs : List Int} (hb : byt bs) : (writeD d i bs).1.Ok := by
  unfold writeD
  split
  · rename_i ht
    obtain ⟨t1, t2⟩ := thereB_iff.1 ht
    split
    · exact h
    · rename_i h64
      have hc := callD_ok h
      obtain ⟨e1, e2, e3⟩ := callD_q d
      split
      · refine ⟨hc.n, hc.safe, fun x hx => ?_, ?_, hc.left⟩
        · rcases List.mem_append.1 hx with hx | hx
          · have := h.queue x hx
            exact ⟨this.1, this.2.1, by show x.1 < ((callD d).1.n : Nat); rw [e2]; exact this.2.2⟩
          · obtain rfl : x = (i, padS bs) := by simpa using hx
            exact ⟨padS_ok hb (by omega), t1, by show i < ((callD d).1.n : Nat); rw [e2]; exact t2⟩
        · show (d.queue ++ [(i, padS bs)]).length ≤ _
          rw [List.length_append]; simp; omega
      · exact hc
  · exact h
end Go.Proofs
