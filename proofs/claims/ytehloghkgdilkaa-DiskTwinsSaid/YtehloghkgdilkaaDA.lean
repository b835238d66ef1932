/- The document's disk: 'Sync', 'Crash', 'Put'. -/
import Derived.Test.YtehloghkgdilkaaD9
set_option linter.unusedSimpArgs false
set_option linter.unusedVariables false
set_option linter.constructorNameAsVariable false
namespace Go.Proofs
open Go.Vc
set_option maxRecDepth 10000

/-- A call of the document's begins: its disk in one box, its answer in another one. -/
structure Boxes (w0 w : World) (p1 p2 : Nat) (sv qv : Value) (d : DS) : Prop where
  b1 : w.heap[p1]? = some (.cells (rcell sv qv d) 30 (0, 0))
  b2 : w.heap[p2]? = some (.cells #[.slice none 0 0, .slice none 0 0, .int .i64 0, .bool false] 30 (0, 0))
  ne : p1 ≠ p2
  e : Ext w0 w
  l1 : w0.heap.size ≤ p1
  l2 : w0.heap.size ≤ p2
theorem Boxes.new (w : World) (sv qv : Value) (d : DS) : Boxes w ((w.alloc (.cells (rv sv qv d).cells 30)).alloc (.cells #[.slice none 0 0, .slice none 0 0, .int .i64 0, .bool false] 30)) w.heap.size (w.heap.size + 1) sv qv d :=
  ⟨by rw [heap_old _ _ _ (by simp)]; exact rbox _, heap_new _ _ _ (by simp), by omega, ((Keep.refl _ w).alloc _).alloc _, Nat.le_refl _, by omega⟩
theorem Boxes.ext {w0 w w' : World} {p1 p2 : Nat} {sv qv : Value} {d : DS} (h : Boxes w0 w p1 p2 sv qv d) (k : Ext w w') : Boxes w0 w' p1 p2 sv qv d := ⟨k.at h.b1 (fun h => h), k.at h.b2 (fun h => h), h.ne, h.e.ext k, h.l1, h.l2⟩
theorem Boxes.set {w0 w : World} {p1 p2 : Nat} {sv qv sv' qv' : Value} {d d' : DS} (h : Boxes w0 w p1 p2 sv qv d) : Boxes w0 (w.putN p1 0 (rcell sv' qv' d')) p1 p2 sv' qv' d' := by
  have k : Keep (fun k => k = p1) w (w.putN p1 0 (rcell sv' qv' d')) := (Keep.refl _ w).putN _ fun _ => rfl
  exact ⟨by rw [heap_putN_eq h.b1, splice_all (by simp [rcell])], k.at h.b2 (fun e => h.ne e.symm), h.ne, h.e.trans k fun j hj e => by have := h.l1; omega, h.l1, h.l2⟩
theorem Boxes.out {w0 w : World} {p1 p2 : Nat} {sv qv : Value} {d : DS} (h : Boxes w0 w p1 p2 sv qv d) (sv' qv' : Value) (d' : DS) : rdO (w.putN p2 0 (rcell sv' qv' d')).heap[p2]? 0 4 = some (rcell sv' qv' d') ∧ Ext w0 (w.putN p2 0 (rcell sv' qv' d')) ∧ Keep (fun k => k = p2) w (w.putN p2 0 (rcell sv' qv' d')) := by
  have k : Keep (fun k => k = p2) w (w.putN p2 0 (rcell sv' qv' d')) := (Keep.refl _ w).putN _ fun _ => rfl
  refine ⟨?_, h.e.trans k fun j hj e => by have := h.l2; omega, k⟩
  rw [heap_putN_eq h.b2, splice_all (by simp [rcell])]
  exact rdO_all _ _ _ _ rfl
theorem rv_size (sv qv : Value) (d : DS) : (rv sv qv d).cells.size = 4 := rfl
theorem RD.box {w w' : World} {p : Nat} {sv qv : Value} {d : DS} {c : Array Value} (h : RD w sv qv d) (k : Keep (fun k => k = p) w w') (hp : w.heap[p]? = some (.cells c 30 (0, 0))) : RD w' sv qv d :=
  h.keep k fun g c t hg ht e => by subst e; rw [hp] at hg; rcases ht with rfl | rfl <;> cases hg
theorem callD_rd {w : World} {sv qv : Value} {d : DS} (h : RD w sv qv d) : RD w sv qv (callD d).1 := by
  obtain ⟨e1, e2, e3⟩ := callD_q d
  exact ⟨by rw [e2, e3]; exact h.safe, by rw [e1]; exact h.queue⟩
theorem crashS_all (s : Int → Sec) (l : List Wr) (b : Nat) : crashS s l l.length b = settleF s (l.take l.length) := by
  unfold crashS
  rw [List.drop_length]
theorem syncD_eq (d : DS) : syncD d = if (callD d).2 then ({ (callD d).1 with safe := crashS (callD d).1.safe (callD d).1.queue d.queue.length 0, queue := [] }, 0) else ((callD d).1, 10) := by
  obtain ⟨e1, e2, e3⟩ := callD_q d
  unfold syncD
  split
  · rw [e1, crashS_all, settleD, e1, List.drop_length]
  · rfl
set_option maxHeartbeats 1600000 in
theorem rsync_ok (w : World) (sv qv : Value) (d : DS) (h : RD w sv qv d) (hd : d.Ok) :
    Calls Try.prog 25 #[rv sv qv d] w (Ret fun u w' => ∃ u', u = .tuple #[u', .int .i64 (syncD d).2] ∧ RTo w w' (syncD d).1 u') := by
  refine calls_of_cfg c25_ok (Nat.le_of_ble_eq_true rfl) ?_
  simp only [argE_nil, argE_cons, Nat.reduceAdd, Nat.zero_add]
  have hz4 : zc [(2, Value.slice none 0 0), (1, .int .i64 0), (1, .bool false)] = #[.slice none 0 0, .slice none 0 0, .int .i64 0, .bool false] := rfl
  have hof : okO (some (.cells #[.slice none 0 0, .slice none 0 0, .int .i64 0, .bool false] 30 (0, 0))) 0 4 = True := by simp [okO]
  obtain ⟨e1, e2, e3⟩ := callD_q d
  (refine W_at c25_ok ?_; refine ⟨_, rfl, ?_⟩; simp (disch := first | omega | assumption | rfl | (simp only [vcS] <;> omega) | fail) only [↓ptV_l, ↓vcA, vcB, ↓vcD, vcE, ↓reduceIte, Nat.reduceEqDiff, Nat.reduceAdd, Nat.reduceMul, Nat.reduceLeDiff, Int.reduceLE, Int.reduceLT, Int.reduceEq, Int.reduceToNat, Int.reduceAdd, Int.reduceSub, Int.reduceMul, Int.reduceNeg, reduceCtorEq, Option.bind_some, Option.map_some, List.length_cons, List.length_nil, vcM, List.getElem?_toArray, List.getElem?_cons_zero, List.getElem?_cons_succ, hz4])
  have B := Boxes.new w sv qv d
  generalize World.alloc _ _ = w1 at B ⊢
  generalize w.heap.size + 1 = p2 at B ⊢
  generalize w.heap.size = p1 at B ⊢
  have B1 := B.b1
  have x4 : (rcell sv qv d).extract 0 (0 + 4) = rcell sv qv d := rfl
  have s4 : (rcell sv qv d).size = 4 := rfl
  have hrv : Value.agg (rcell sv qv d) = rv sv qv d := rfl
  have hrv' : rv sv qv (callD d).1 = Value.agg (rcell sv qv (callD d).1) := rfl
  have s4' : (rcell sv qv (callD d).1).size = 4 := rfl
  have x4' : (rcell sv qv (callD d).1).extract 0 (0 + 4) = rcell sv qv (callD d).1 := rfl
  (refine W_at c25_ok ?_; refine ⟨_, rfl, ?_⟩; simp (disch := first | omega | assumption | rfl | (simp only [vcS] <;> omega) | fail) only [↓ptV_l, ↓vcA, vcB, ↓vcD, vcE, ↓reduceIte, Nat.reduceEqDiff, Nat.reduceAdd, Nat.reduceMul, Nat.reduceLeDiff, Int.reduceLE, Int.reduceLT, Int.reduceEq, Int.reduceToNat, Int.reduceAdd, Int.reduceSub, Int.reduceMul, Int.reduceNeg, reduceCtorEq, Option.bind_some, Option.map_some, List.length_cons, List.length_nil, vcM, List.getElem?_toArray, List.getElem?_cons_zero, List.getElem?_cons_succ, B1, x4, s4, hrv])
  refine callV_ret (rcall_ok w1 sv qv d (h.ext B.e) hd.left) ?_
  rintro _ w2 ⟨rfl, hE2⟩
  have B2 := B.ext hE2
  have B21 := B2.b1
  rw [hrv']
  first | (simp (disch := first | omega | assumption | rfl | (simp only [vcS] <;> omega) | fail) only [↓ptV_l, ↓vcA, vcB, ↓vcD, vcE, ↓reduceIte, Nat.reduceEqDiff, Nat.reduceAdd, Nat.reduceMul, Nat.reduceLeDiff, Int.reduceLE, Int.reduceLT, Int.reduceEq, Int.reduceToNat, Int.reduceAdd, Int.reduceSub, Int.reduceMul, Int.reduceNeg, reduceCtorEq, Option.bind_some, Option.map_some, List.length_cons, List.length_nil, vcM, List.getElem?_toArray, List.getElem?_cons_zero, List.getElem?_cons_succ, s4', B21]) | skip
  have hfl : ∀ d' : DS, flat (rcell sv qv d') := fun d' => rc_flat (w := w) h.safe.one h.queue.one
  have h2 := h.ext B2.e
  refine ⟨hfl _, by rw [s4]; exact Nat.le_refl _, ?_⟩
  have B3 := B2.set (sv' := sv) (qv' := qv) (d' := (callD d).1)
  have h3 : RD (w2.putN p1 0 (rcell sv qv (callD d).1)) sv qv (callD d).1 := callD_rd (h2.box ((Keep.refl _ w2).putN _ fun _ => rfl) B21)
  generalize World.putN _ _ _ _ = w3 at B3 h3 ⊢
  have B31 := B3.b1
  have B32 := B3.b2
  have g1 : (rcell sv qv (callD d).1)[1]? = some qv := rfl
  have hlq := h.queue.len
  rw [qlen] at hlq
  have hrv2 : Value.agg (rcell sv qv (callD d).1) = rv sv qv (callD d).1 := rfl
  cases hc : (callD d).2 with
  | false =>
    have he : syncD d = ((callD d).1, 10) := by rw [syncD, hc]; rfl
    obtain ⟨o1, o2, o3⟩ := B3.out sv qv (callD d).1
    (refine W_at c25_ok ?_; refine ⟨_, rfl, ?_⟩; simp (disch := first | omega | assumption | rfl | (simp only [vcS] <;> omega) | fail) only [↓ptV_l, ↓vcA, vcB, ↓vcD, vcE, ↓reduceIte, Nat.reduceEqDiff, Nat.reduceAdd, Nat.reduceMul, Nat.reduceLeDiff, Int.reduceLE, Int.reduceLT, Int.reduceEq, Int.reduceToNat, Int.reduceAdd, Int.reduceSub, Int.reduceMul, Int.reduceNeg, reduceCtorEq, Option.bind_some, Option.map_some, List.length_cons, List.length_nil, vcM, List.getElem?_toArray, List.getElem?_cons_zero, List.getElem?_cons_succ])
    (refine W_at c25_ok ?_; refine ⟨_, rfl, ?_⟩; simp (disch := first | omega | assumption | rfl | (simp only [vcS] <;> omega) | fail) only [↓ptV_l, ↓vcA, vcB, ↓vcD, vcE, ↓reduceIte, Nat.reduceEqDiff, Nat.reduceAdd, Nat.reduceMul, Nat.reduceLeDiff, Int.reduceLE, Int.reduceLT, Int.reduceEq, Int.reduceToNat, Int.reduceAdd, Int.reduceSub, Int.reduceMul, Int.reduceNeg, reduceCtorEq, Option.bind_some, Option.map_some, List.length_cons, List.length_nil, vcM, List.getElem?_toArray, List.getElem?_cons_zero, List.getElem?_cons_succ])
    (refine W_at c25_ok ?_; refine ⟨_, rfl, ?_⟩; simp (disch := first | omega | assumption | rfl | (simp only [vcS] <;> omega) | fail) only [↓ptV_l, ↓vcA, vcB, ↓vcD, vcE, ↓reduceIte, Nat.reduceEqDiff, Nat.reduceAdd, Nat.reduceMul, Nat.reduceLeDiff, Int.reduceLE, Int.reduceLT, Int.reduceEq, Int.reduceToNat, Int.reduceAdd, Int.reduceSub, Int.reduceMul, Int.reduceNeg, reduceCtorEq, Option.bind_some, Option.map_some, List.length_cons, List.length_nil, vcM, List.getElem?_toArray, List.getElem?_cons_zero, List.getElem?_cons_succ, B31, B32, x4', s4', hof])
    refine ⟨hfl _, ?_⟩
    (refine W_at c25_ok ?_; refine ⟨_, rfl, ?_⟩; simp (disch := first | omega | assumption | rfl | (simp only [vcS] <;> omega) | fail) only [↓ptV_l, ↓vcA, vcB, ↓vcD, vcE, ↓reduceIte, Nat.reduceEqDiff, Nat.reduceAdd, Nat.reduceMul, Nat.reduceLeDiff, Int.reduceLE, Int.reduceLT, Int.reduceEq, Int.reduceToNat, Int.reduceAdd, Int.reduceSub, Int.reduceMul, Int.reduceNeg, reduceCtorEq, Option.bind_some, Option.map_some, List.length_cons, List.length_nil, vcM, List.getElem?_toArray, List.getElem?_cons_zero, List.getElem?_cons_succ, o1, Ret_returned])
    rw [he]
    exact ⟨_, rfl, sv, qv, rfl, h3.box o3 B32, o2⟩
  | true =>
    have he := syncD_eq d
    rw [hc, if_pos rfl] at he
    (refine W_at c25_ok ?_; refine ⟨_, rfl, ?_⟩; simp (disch := first | omega | assumption | rfl | (simp only [vcS] <;> omega) | fail) only [↓ptV_l, ↓vcA, vcB, ↓vcD, vcE, ↓reduceIte, Nat.reduceEqDiff, Nat.reduceAdd, Nat.reduceMul, Nat.reduceLeDiff, Int.reduceLE, Int.reduceLT, Int.reduceEq, Int.reduceToNat, Int.reduceAdd, Int.reduceSub, Int.reduceMul, Int.reduceNeg, reduceCtorEq, Option.bind_some, Option.map_some, List.length_cons, List.length_nil, vcM, List.getElem?_toArray, List.getElem?_cons_zero, List.getElem?_cons_succ])
    (refine W_at c25_ok ?_; refine ⟨_, rfl, ?_⟩; simp (disch := first | omega | assumption | rfl | (simp only [vcS] <;> omega) | fail) only [↓ptV_l, ↓vcA, vcB, ↓vcD, vcE, ↓reduceIte, Nat.reduceEqDiff, Nat.reduceAdd, Nat.reduceMul, Nat.reduceLeDiff, Int.reduceLE, Int.reduceLT, Int.reduceEq, Int.reduceToNat, Int.reduceAdd, Int.reduceSub, Int.reduceMul, Int.reduceNeg, reduceCtorEq, Option.bind_some, Option.map_some, List.length_cons, List.length_nil, vcM, List.getElem?_toArray, List.getElem?_cons_zero, List.getElem?_cons_succ])
    (refine W_at c25_ok ?_; refine ⟨_, rfl, ?_⟩; simp (disch := first | omega | assumption | rfl | (simp only [vcS] <;> omega) | fail) only [↓ptV_l, ↓vcA, vcB, ↓vcD, vcE, ↓reduceIte, Nat.reduceEqDiff, Nat.reduceAdd, Nat.reduceMul, Nat.reduceLeDiff, Int.reduceLE, Int.reduceLT, Int.reduceEq, Int.reduceToNat, Int.reduceAdd, Int.reduceSub, Int.reduceMul, Int.reduceNeg, reduceCtorEq, Option.bind_some, Option.map_some, List.length_cons, List.length_nil, vcM, List.getElem?_toArray, List.getElem?_cons_zero, List.getElem?_cons_succ, B31, B32, x4', s4', hof, g1, hlq, hrv2])
    refine callV_ret (rsettle_ok w3 sv qv (callD d).1 d.queue.length 0 h3 (callD_ok hd) (by have := hd.len; omega) (by omega)) ?_
    rintro _ w4 ⟨sv4, qv4, rfl, h4, hE4⟩
    have B4 := B3.ext hE4
    have B42 := B4.b2
    generalize hd4 : ({ (callD d).1 with safe := crashS (callD d).1.safe (callD d).1.queue d.queue.length 0, queue := [] } : DS) = d4 at h4 he
    obtain ⟨o1, o2, o3⟩ := B4.out sv4 qv4 d4
    have hrv4 : rv sv4 qv4 d4 = Value.agg (rcell sv4 qv4 d4) := rfl
    have s44 : (rcell sv4 qv4 d4).size = 4 := rfl
    rw [hrv4]
    first | (simp (disch := first | omega | assumption | rfl | (simp only [vcS] <;> omega) | fail) only [↓ptV_l, ↓vcA, vcB, ↓vcD, vcE, ↓reduceIte, Nat.reduceEqDiff, Nat.reduceAdd, Nat.reduceMul, Nat.reduceLeDiff, Int.reduceLE, Int.reduceLT, Int.reduceEq, Int.reduceToNat, Int.reduceAdd, Int.reduceSub, Int.reduceMul, Int.reduceNeg, reduceCtorEq, Option.bind_some, Option.map_some, List.length_cons, List.length_nil, vcM, List.getElem?_toArray, List.getElem?_cons_zero, List.getElem?_cons_succ, s44, B42, hof]) | skip
    refine ⟨rc_flat (w := w4) h4.safe.one h4.queue.one, ?_⟩
    (refine W_at c25_ok ?_; refine ⟨_, rfl, ?_⟩; simp (disch := first | omega | assumption | rfl | (simp only [vcS] <;> omega) | fail) only [↓ptV_l, ↓vcA, vcB, ↓vcD, vcE, ↓reduceIte, Nat.reduceEqDiff, Nat.reduceAdd, Nat.reduceMul, Nat.reduceLeDiff, Int.reduceLE, Int.reduceLT, Int.reduceEq, Int.reduceToNat, Int.reduceAdd, Int.reduceSub, Int.reduceMul, Int.reduceNeg, reduceCtorEq, Option.bind_some, Option.map_some, List.length_cons, List.length_nil, vcM, List.getElem?_toArray, List.getElem?_cons_zero, List.getElem?_cons_succ, o1, Ret_returned])
    rw [he]
    exact ⟨_, rfl, sv4, qv4, rfl, h4.box o3 B42, o2⟩
set_option maxHeartbeats 1600000 in
theorem rcrash_ok (w : World) (sv qv : Value) (d : DS) (keep torn : Int) (h : RD w sv qv d) (hd : d.Ok) :
    Calls Try.prog 28 #[rv sv qv d, .int .i64 keep, .int .i64 torn] w (Ret fun u w' => RTo w w' (crashD d keep torn) u) := by
  refine calls_of_cfg c28_ok (Nat.le_of_ble_eq_true rfl) ?_
  simp only [argE_nil, argE_cons, Nat.reduceAdd, Nat.zero_add]
  have hz4 : zc [(2, Value.slice none 0 0), (1, .int .i64 0), (1, .bool false)] = #[.slice none 0 0, .slice none 0 0, .int .i64 0, .bool false] := rfl
  have hof : okO (some (.cells #[.slice none 0 0, .slice none 0 0, .int .i64 0, .bool false] 30 (0, 0))) 0 4 = True := by simp [okO]
  (refine W_at c28_ok ?_; refine ⟨_, rfl, ?_⟩; simp (disch := first | omega | assumption | rfl | (simp only [vcS] <;> omega) | fail) only [↓ptV_l, ↓vcA, vcB, ↓vcD, vcE, ↓reduceIte, Nat.reduceEqDiff, Nat.reduceAdd, Nat.reduceMul, Nat.reduceLeDiff, Int.reduceLE, Int.reduceLT, Int.reduceEq, Int.reduceToNat, Int.reduceAdd, Int.reduceSub, Int.reduceMul, Int.reduceNeg, reduceCtorEq, Option.bind_some, Option.map_some, List.length_cons, List.length_nil, vcM, List.getElem?_toArray, List.getElem?_cons_zero, List.getElem?_cons_succ, hz4])
  have B := Boxes.new w sv qv d
  generalize World.alloc _ _ = w1 at B ⊢
  generalize w.heap.size + 1 = p2 at B ⊢
  generalize w.heap.size = p1 at B ⊢
  have B1 := B.b1
  have x4 : (rcell sv qv d).extract 0 (0 + 4) = rcell sv qv d := rfl
  have s4 : (rcell sv qv d).size = 4 := rfl
  have hrv : Value.agg (rcell sv qv d) = rv sv qv d := rfl
  have g1 : (rcell sv qv d)[1]? = some qv := rfl
  have hlq := h.queue.len
  rw [qlen] at hlq
  have hl := hd.len
  have hw1 : IntKind.i64.wrap ((d.queue.length : Int) + 1) = (d.queue.length : Int) + 1 := wrap_i64 (by omega) (by omega)
  (refine W_at c28_ok ?_; refine ⟨_, rfl, ?_⟩; simp (disch := first | omega | assumption | rfl | (simp only [vcS] <;> omega) | fail) only [↓ptV_l, ↓vcA, vcB, ↓vcD, vcE, ↓reduceIte, Nat.reduceEqDiff, Nat.reduceAdd, Nat.reduceMul, Nat.reduceLeDiff, Int.reduceLE, Int.reduceLT, Int.reduceEq, Int.reduceToNat, Int.reduceAdd, Int.reduceSub, Int.reduceMul, Int.reduceNeg, reduceCtorEq, Option.bind_some, Option.map_some, List.length_cons, List.length_nil, vcM, List.getElem?_toArray, List.getElem?_cons_zero, List.getElem?_cons_succ, B1, x4, s4, g1, hlq, hw1])
  refine callV_ret (rmod_ok w1.drew keep _ (by omega)) ?_
  rintro _ wq ⟨rfl, hw⟩
  obtain rfl : w1.drew = wq := hw.symm
  have Bd := B.ext (show Ext w1 w1.drew from (Keep.refl _ w1).drew)
  have Bd1 := Bd.b1
  first | (simp (disch := first | omega | assumption | rfl | (simp only [vcS] <;> omega) | fail) only [↓ptV_l, ↓vcA, vcB, ↓vcD, vcE, ↓reduceIte, Nat.reduceEqDiff, Nat.reduceAdd, Nat.reduceMul, Nat.reduceLeDiff, Int.reduceLE, Int.reduceLT, Int.reduceEq, Int.reduceToNat, Int.reduceAdd, Int.reduceSub, Int.reduceMul, Int.reduceNeg, reduceCtorEq, Option.bind_some, Option.map_some, List.length_cons, List.length_nil, vcM, List.getElem?_toArray, List.getElem?_cons_zero, List.getElem?_cons_succ, B1, x4, s4]) | skip
  refine callV_ret (rmod_ok w1.drew torn 64 (by omega)) ?_
  rintro _ wq ⟨rfl, hw⟩
  obtain rfl : w1.drew = wq := hw.symm
  have hmb := modF_b keep (m := (d.queue.length : Int) + 1) (by omega)
  have htb := modF_b torn (m := 64) (by omega)
  have hcr : crashD d keep torn = { d with safe := crashS d.safe d.queue (modF keep ((d.queue.length : Int) + 1)).toNat (modF torn 64).toNat, queue := [], dead := false, left := -1 } := rfl
  generalize modF keep ((d.queue.length : Int) + 1) = N at hmb hcr ⊢
  generalize modF torn 64 = T at htb hcr ⊢
  obtain ⟨n, rfl⟩ : ∃ n : Nat, N = n := ⟨N.toNat, by omega⟩
  obtain ⟨b, rfl⟩ : ∃ b : Nat, T = b := ⟨T.toNat, by omega⟩
  rw [Int.toNat_natCast, Int.toNat_natCast] at hcr
  first | (simp (disch := first | omega | assumption | rfl | (simp only [vcS] <;> omega) | fail) only [↓ptV_l, ↓vcA, vcB, ↓vcD, vcE, ↓reduceIte, Nat.reduceEqDiff, Nat.reduceAdd, Nat.reduceMul, Nat.reduceLeDiff, Int.reduceLE, Int.reduceLT, Int.reduceEq, Int.reduceToNat, Int.reduceAdd, Int.reduceSub, Int.reduceMul, Int.reduceNeg, reduceCtorEq, Option.bind_some, Option.map_some, List.length_cons, List.length_nil, vcM, List.getElem?_toArray, List.getElem?_cons_zero, List.getElem?_cons_succ, B1, x4, s4, hrv]) | skip
  try rw [hrv]
  generalize w1.drew = w2 at Bd Bd1 ⊢
  refine callV_ret (rsettle_ok w2 sv qv d n b (h.ext Bd.e) hd (by omega) (by omega)) ?_
  rintro _ w4 ⟨sv4, qv4, rfl, h4, hE4⟩
  have B4 := Bd.ext hE4
  have B41 := B4.b1
  generalize hd4 : ({ d with safe := crashS d.safe d.queue n b, queue := [] } : DS) = d4 at h4
  have hrv4 : rv sv4 qv4 d4 = Value.agg (rcell sv4 qv4 d4) := rfl
  have s44 : (rcell sv4 qv4 d4).size = 4 := rfl
  have hok1 : okO (some (.cells (rcell sv qv d) 30 (0, 0))) 0 4 = True := by simp [okO, rcell]
  rw [hrv4]
  first | (simp (disch := first | omega | assumption | rfl | (simp only [vcS] <;> omega) | fail) only [↓ptV_l, ↓vcA, vcB, ↓vcD, vcE, ↓reduceIte, Nat.reduceEqDiff, Nat.reduceAdd, Nat.reduceMul, Nat.reduceLeDiff, Int.reduceLE, Int.reduceLT, Int.reduceEq, Int.reduceToNat, Int.reduceAdd, Int.reduceSub, Int.reduceMul, Int.reduceNeg, reduceCtorEq, Option.bind_some, Option.map_some, List.length_cons, List.length_nil, vcM, List.getElem?_toArray, List.getElem?_cons_zero, List.getElem?_cons_succ, s44, B41]) | skip
  refine ⟨rc_flat (w := w4) h4.safe.one h4.queue.one, by rw [s4]; exact Nat.le_refl _, ?_⟩
  have B5 := B4.set (sv' := sv4) (qv' := qv4) (d' := d4)
  have h5 : RD (w4.putN p1 0 (rcell sv4 qv4 d4)) sv4 qv4 d4 := h4.box ((Keep.refl _ w4).putN _ fun _ => rfl) B41
  generalize World.putN _ _ _ _ = w5 at B5 h5 ⊢
  have B51 := B5.b1
  have B52 := B5.b2
  have d5 : rcell sv4 qv4 d4 = rcell sv4 qv4 d4 := rfl
  have k6 : Keep (fun k => k = p1) w5 (w5.setCell ⟨p1, 3, none⟩ (.bool false)) := (Keep.refl _ w5).setCell _ fun _ => rfl
  have q6 : (w5.setCell ⟨p1, 3, none⟩ (.bool false)).heap[p1]? = some (.cells (rcell sv4 qv4 { d4 with dead := false }) 30 (0, 0)) := by rw [heap_setCell_eq B51, rc_set3]
  (refine W_at c28_ok ?_; refine ⟨_, rfl, ?_⟩; simp (disch := first | omega | assumption | rfl | (simp only [vcS] <;> omega) | fail) only [↓ptV_l, ↓vcA, vcB, ↓vcD, vcE, ↓reduceIte, Nat.reduceEqDiff, Nat.reduceAdd, Nat.reduceMul, Nat.reduceLeDiff, Int.reduceLE, Int.reduceLT, Int.reduceEq, Int.reduceToNat, Int.reduceAdd, Int.reduceSub, Int.reduceMul, Int.reduceNeg, reduceCtorEq, Option.bind_some, Option.map_some, List.length_cons, List.length_nil, vcM, List.getElem?_toArray, List.getElem?_cons_zero, List.getElem?_cons_succ])
  refine ⟨wr1_of B51 (by simp [rcell]), ?_⟩
  generalize World.setCell _ _ _ = w6 at k6 q6 ⊢
  have k7 := k6.setCell (b := p1) (o := 2) (s := none) (.int .i64 (-1)) fun _ => rfl
  have q7 : (w6.setCell ⟨p1, 2, none⟩ (.int .i64 (-1))).heap[p1]? = some (.cells (rcell sv4 qv4 (crashD d keep torn)) 30 (0, 0)) := by rw [heap_setCell_eq q6, rc_set2, hcr, ← hd4]
  (refine W_at c28_ok ?_; refine ⟨_, rfl, ?_⟩; simp (disch := first | omega | assumption | rfl | (simp only [vcS] <;> omega) | fail) only [↓ptV_l, ↓vcA, vcB, ↓vcD, vcE, ↓reduceIte, Nat.reduceEqDiff, Nat.reduceAdd, Nat.reduceMul, Nat.reduceLeDiff, Int.reduceLE, Int.reduceLT, Int.reduceEq, Int.reduceToNat, Int.reduceAdd, Int.reduceSub, Int.reduceMul, Int.reduceNeg, reduceCtorEq, Option.bind_some, Option.map_some, List.length_cons, List.length_nil, vcM, List.getElem?_toArray, List.getElem?_cons_zero, List.getElem?_cons_succ])
  refine ⟨wr1_of q6 (by simp [rcell]), ?_⟩
  generalize World.setCell _ _ _ = w7 at k7 q7 ⊢
  have B7 : Boxes w w7 p1 p2 sv4 qv4 (crashD d keep torn) := ⟨q7, k7.at B52 (fun e => B5.ne e.symm), B5.ne, B5.e.trans k7 fun j hj e => by have := B5.l1; omega, B5.l1, B5.l2⟩
  have B72 := B7.b2
  have x7 : (rcell sv4 qv4 (crashD d keep torn)).extract 0 (0 + 4) = rcell sv4 qv4 (crashD d keep torn) := rfl
  have s7 : (rcell sv4 qv4 (crashD d keep torn)).size = 4 := rfl
  obtain ⟨o1, o2, o3⟩ := B7.out sv4 qv4 (crashD d keep torn)
  have h7 : RD w7 sv4 qv4 (crashD d keep torn) := by
    have := h5.box k7 B51
    rw [hcr]
    subst hd4
    exact ⟨this.safe, this.queue⟩
  (refine W_at c28_ok ?_; refine ⟨_, rfl, ?_⟩; simp (disch := first | omega | assumption | rfl | (simp only [vcS] <;> omega) | fail) only [↓ptV_l, ↓vcA, vcB, ↓vcD, vcE, ↓reduceIte, Nat.reduceEqDiff, Nat.reduceAdd, Nat.reduceMul, Nat.reduceLeDiff, Int.reduceLE, Int.reduceLT, Int.reduceEq, Int.reduceToNat, Int.reduceAdd, Int.reduceSub, Int.reduceMul, Int.reduceNeg, reduceCtorEq, Option.bind_some, Option.map_some, List.length_cons, List.length_nil, vcM, List.getElem?_toArray, List.getElem?_cons_zero, List.getElem?_cons_succ, q7, B72, x7, s7, hof])
  refine ⟨rc_flat (w := w4) h4.safe.one h4.queue.one, ?_⟩
  (refine W_at c28_ok ?_; refine ⟨_, rfl, ?_⟩; simp (disch := first | omega | assumption | rfl | (simp only [vcS] <;> omega) | fail) only [↓ptV_l, ↓vcA, vcB, ↓vcD, vcE, ↓reduceIte, Nat.reduceEqDiff, Nat.reduceAdd, Nat.reduceMul, Nat.reduceLeDiff, Int.reduceLE, Int.reduceLT, Int.reduceEq, Int.reduceToNat, Int.reduceAdd, Int.reduceSub, Int.reduceMul, Int.reduceNeg, reduceCtorEq, Option.bind_some, Option.map_some, List.length_cons, List.length_nil, vcM, List.getElem?_toArray, List.getElem?_cons_zero, List.getElem?_cons_succ, o1, Ret_returned])
  exact ⟨sv4, qv4, rfl, h7.box o3 B72, o2⟩
end Go.Proofs
