/- The law JournalRooms: its walk. -/
import Derived.Test.YtfackfekmadjbaaJL
set_option linter.unusedSimpArgs false
set_option linter.unusedVariables false
set_option linter.constructorNameAsVariable false
namespace Go.Proofs
open Go.Vc
set_option maxRecDepth 10000

structure IntsJ (w : World) (q : Option Addr) (n c : Nat) (xs : List (Array Value)) : Prop where
  len : xs.length = n
  mx : n ≤ maxLen
  rd : rdS w 1 (.slice q n c) = some (xs.flatMap Array.toList).toArray
  at' : ∀ x ∈ xs, ∃ a, x = #[.int .i64 a] ∧ -9223372036854775808 ≤ a ∧ a ≤ 9223372036854775807
theorem IntsJ.at {w w' : World} {q : Option Addr} {n c : Nat} {xs : List (Array Value)} (h : IntsJ w q n c xs) (k : Ext w w') {i : Nat} (hi : i < n) :
    ∃ b o a, q = some ⟨b, o, none⟩ ∧ cellO w'.heap[b]? (o + i) = some (.int .i64 a) ∧ -9223372036854775808 ≤ a ∧ a ≤ 9223372036854775807 := by
  have hl := h.len
  have hr := rdS_keep h.rd k fun _ _ h => h
  have hs : ∀ x ∈ xs, x.size = 1 := fun x hx => by obtain ⟨_, e, _⟩ := h.at' x hx; rw [e]; rfl
  obtain ⟨b, o, hq, h1⟩ := rdS_at hr hl hs hi
  obtain ⟨a, e, h2⟩ := h.at' _ (List.getElem_mem (show i < xs.length by omega))
  rw [e] at h1
  have h3 := rdO_cell h1 (j := 0) (by omega)
  rw [Nat.add_zero, Nat.mul_one] at h3
  exact ⟨b, o, a, hq, h3, h2⟩
theorem int_of {w : World} {x : Array Value} (h : LiesAll w (.cons (.int .i64) .nil) x.toList) : ∃ a, x = #[.int .i64 a] ∧ -9223372036854775808 ≤ a ∧ a ≤ 9223372036854775807 := by
  obtain ⟨l⟩ := x
  match l, h with
  | [v0], h =>
    simp only [LiesAll] at h
    obtain ⟨h0, _⟩ := h
    simp only [Lies] at h0
    obtain ⟨a0, rfl, n0⟩ := h0
    exact ⟨a0, rfl, wf_i64 n0⟩
  | [], h => simp [LiesAll] at h
  | _ :: _ :: _, h => simp [LiesAll] at h
theorem intsJ_of {w : World} {v : Value} (h : Lies w (.sl (.cons (.int .i64) .nil)) v) : ∃ q n c xs, v = .slice q n c ∧ IntsJ w q n c xs := by
  simp only [Lies] at h
  obtain ⟨q, n, c, xs, rfl, h2, h3, h4, h5, h6, h7⟩ := h
  exact ⟨q, n, c, xs, rfl, h4, Nat.le_trans h2 h3, h5, fun x hx => int_of (h7 x hx)⟩
theorem open_small (w : World) (p r : Nat) (qv : Value) (d : DS) (hD : DAt w p r qv d) (hn : d.n < 16) :
    Calls Try.prog 9 #[.pointer (some ⟨p, 0, none⟩)] w (Ret fun u w' => u = .tuple #[.pointer none, .int .i64 9] ∧ w' = w) := by
  refine calls_of_cfg c9_ok (Nat.le_of_ble_eq_true rfl) ?_
  simp only [argE_nil, argE_cons, Nat.reduceAdd, Nat.zero_add]
  have hlt : ((d.n : Nat) : Int) < 16 := by omega
  (refine W_at c9_ok ?_; refine ⟨_, rfl, ?_⟩; simp (disch := first | omega | assumption | rfl | (simp only [vcS] <;> omega) | fail) only [↓ptV_l, ↓vcA, vcB, ↓vcD, vcE, ↓reduceIte, Nat.reduceEqDiff, Nat.reduceAdd, Nat.reduceMul, Nat.reduceLeDiff, Int.reduceLE, Int.reduceLT, Int.reduceEq, Int.reduceToNat, Int.reduceAdd, Int.reduceSub, Int.reduceMul, Int.reduceNeg, reduceCtorEq, Option.bind_some, Option.map_some, List.length_cons, List.length_nil, vcM, List.getElem?_toArray, List.getElem?_cons_zero, List.getElem?_cons_succ])
  (refine W_at c9_ok ?_; refine ⟨_, rfl, ?_⟩; simp (disch := first | omega | assumption | rfl | (simp only [vcS] <;> omega) | fail) only [↓ptV_l, ↓vcA, vcB, ↓vcD, vcE, ↓reduceIte, Nat.reduceEqDiff, Nat.reduceAdd, Nat.reduceMul, Nat.reduceLeDiff, Int.reduceLE, Int.reduceLT, Int.reduceEq, Int.reduceToNat, Int.reduceAdd, Int.reduceSub, Int.reduceMul, Int.reduceNeg, reduceCtorEq, Option.bind_some, Option.map_some, List.length_cons, List.length_nil, vcM, List.getElem?_toArray, List.getElem?_cons_zero, List.getElem?_cons_succ])
  refine callV_ret (sectors_ok w p r qv d hD) ?_
  rintro _ w1 ⟨rfl, hw⟩
  obtain rfl : w = w1 := hw.symm
  simp (disch := first | omega | assumption | rfl | (simp only [vcS] <;> omega) | fail) only [↓ptV_l, ↓vcA, vcB, ↓vcD, vcE, ↓reduceIte, Nat.reduceEqDiff, Nat.reduceAdd, Nat.reduceMul, Nat.reduceLeDiff, Int.reduceLE, Int.reduceLT, Int.reduceEq, Int.reduceToNat, Int.reduceAdd, Int.reduceSub, Int.reduceMul, Int.reduceNeg, reduceCtorEq, Option.bind_some, Option.map_some, List.length_cons, List.length_nil, vcM, List.getElem?_toArray, List.getElem?_cons_zero, List.getElem?_cons_succ, hlt]
  (refine W_at c9_ok ?_; refine ⟨_, rfl, ?_⟩; simp (disch := first | omega | assumption | rfl | (simp only [vcS] <;> omega) | fail) only [↓ptV_l, ↓vcA, vcB, ↓vcD, vcE, ↓reduceIte, Nat.reduceEqDiff, Nat.reduceAdd, Nat.reduceMul, Nat.reduceLeDiff, Int.reduceLE, Int.reduceLT, Int.reduceEq, Int.reduceToNat, Int.reduceAdd, Int.reduceSub, Int.reduceMul, Int.reduceNeg, reduceCtorEq, Option.bind_some, Option.map_some, List.length_cons, List.length_nil, vcM, List.getElem?_toArray, List.getElem?_cons_zero, List.getElem?_cons_succ])
  (refine W_at c9_ok ?_; refine ⟨_, rfl, ?_⟩; simp (disch := first | omega | assumption | rfl | (simp only [vcS] <;> omega) | fail) only [↓ptV_l, ↓vcA, vcB, ↓vcD, vcE, ↓reduceIte, Nat.reduceEqDiff, Nat.reduceAdd, Nat.reduceMul, Nat.reduceLeDiff, Int.reduceLE, Int.reduceLT, Int.reduceEq, Int.reduceToNat, Int.reduceAdd, Int.reduceSub, Int.reduceMul, Int.reduceNeg, reduceCtorEq, Option.bind_some, Option.map_some, List.length_cons, List.length_nil, vcM, List.getElem?_toArray, List.getElem?_cons_zero, List.getElem?_cons_succ])
  (refine W_at c9_ok ?_; refine ⟨_, rfl, ?_⟩; simp (disch := first | omega | assumption | rfl | (simp only [vcS] <;> omega) | fail) only [↓ptV_l, ↓vcA, vcB, ↓vcD, vcE, ↓reduceIte, Nat.reduceEqDiff, Nat.reduceAdd, Nat.reduceMul, Nat.reduceLeDiff, Int.reduceLE, Int.reduceLT, Int.reduceEq, Int.reduceToNat, Int.reduceAdd, Int.reduceSub, Int.reduceMul, Int.reduceNeg, reduceCtorEq, Option.bind_some, Option.map_some, List.length_cons, List.length_nil, vcM, List.getElem?_toArray, List.getElem?_cons_zero, List.getElem?_cons_succ, Ret_returned])
/-- Behind a step, the document's journal written to its box. -/
theorem StepTo.after {base : Nat} {wa wb wc : World} {jp p r p6 : Nat} {sv rv qv sv' rv' qv' sw' rw' : Value} {J J' : JS} {d d' : DS} {c : Array Value} (hSa : JSys base wa jp p r sv rv qv J d) (hSt : StepTo base wa wb jp p r rv qv J' d' sv' rv' qv') (hEc : Ext wb wc)
    (hT : TAt (fun x => (¬ blk rv x ∧ x < wa.heap.size) ∨ wb.heap.size ≤ x) wc sw' rw' J'.state J'.recs) (h6 : wc.heap[p6]? = some (.cells c 33 (0, 0))) (hc : c.size = 2) :
    JSys base (wc.putN p6 0 #[sw', rw']) jp p r sv' rv' qv' J' d' ∧ TAt (fun x => ¬ blk rv' x) (wc.putN p6 0 #[sw', rw']) sw' rw' J'.state J'.recs ∧ (wc.putN p6 0 #[sw', rw']).heap[p6]? = some (.cells #[sw', rw'] 33 (0, 0)) ∧ Keep (fun x => x = p6) wc (wc.putN p6 0 #[sw', rw']) := by
  have k6 : Keep (fun x => x = p6) wc (wc.putN p6 0 #[sw', rw']) := (Keep.refl _ wc).putN _ fun _ => rfl
  have h6d : (wc.putN p6 0 #[sw', rw']).heap[p6]? = some (.cells #[sw', rw'] 33 (0, 0)) := by rw [heap_putN_eq h6, splice_all (by rw [hc]; rfl)]
  refine ⟨(hSt.sys.ext hEc).box h6 k6, (hT.mono fun x hx hb => ?_).box h6 k6, h6d, k6⟩
  rcases hx with ⟨h1, h2⟩ | h1
  · rcases hSt.rvb x hb with h3 | h3
    · exact h1 h3
    · omega
  · have := hSt.sys.lt (.inr (.inr hb)); omega
theorem roomF_b (d : DS) (J : JS) : -1 ≤ roomF d J ∧ roomF d J ≤ 65535 := by unfold roomF; omega
set_option maxHeartbeats 3200000 in
theorem rooms_ok (w : World) (sec : Int) (q : Option Addr) (nn c : Nat) (xs : List (Array Value)) (hA : IntsJ w q nn c xs) (hsec : -9223372036854775808 ≤ sec ∧ sec ≤ 9223372036854775807) :
    Calls Try.prog 4 #[.int .i64 sec, .slice q nn c] w (Ret fun u w' => u = .bool true ∧ Ext w w') := by
  refine calls_of_cfg c4_ok (Nat.le_of_ble_eq_true rfl) ?_
  simp only [argE_nil, argE_cons, Nat.reduceAdd, Nat.zero_add]
  obtain ⟨s, hs⟩ : ∃ s : Nat, max 0 (min sec 300) = (s : Int) := ⟨(max 0 (min sec 300)).toNat, by omega⟩
  have hs300 : s ≤ 300 := by omega
  (refine W_at c4_ok ?_; refine ⟨_, rfl, ?_⟩; simp (disch := first | omega | assumption | rfl | (simp only [vcS] <;> omega) | fail) only [↓ptV_l, ↓vcA, vcB, ↓vcD, vcE, ↓reduceIte, Nat.reduceEqDiff, Nat.reduceAdd, Nat.reduceMul, Nat.reduceLeDiff, Int.reduceLE, Int.reduceLT, Int.reduceEq, Int.reduceToNat, Int.reduceAdd, Int.reduceSub, Int.reduceMul, Int.reduceNeg, reduceCtorEq, Option.bind_some, Option.map_some, List.length_cons, List.length_nil, vcM, List.getElem?_toArray, List.getElem?_cons_zero, List.getElem?_cons_succ])
  (refine W_at c4_ok ?_; refine ⟨_, rfl, ?_⟩; simp (disch := first | omega | assumption | rfl | (simp only [vcS] <;> omega) | fail) only [↓ptV_l, ↓vcA, vcB, ↓vcD, vcE, ↓reduceIte, Nat.reduceEqDiff, Nat.reduceAdd, Nat.reduceMul, Nat.reduceLeDiff, Int.reduceLE, Int.reduceLT, Int.reduceEq, Int.reduceToNat, Int.reduceAdd, Int.reduceSub, Int.reduceMul, Int.reduceNeg, reduceCtorEq, Option.bind_some, Option.map_some, List.length_cons, List.length_nil, vcM, List.getElem?_toArray, List.getElem?_cons_zero, List.getElem?_cons_succ])
  refine callV_ret (awake_ok w) ?_
  rintro _ w1 ⟨rfl, hE1⟩
  first | (simp (disch := first | omega | assumption | rfl | (simp only [vcS] <;> omega) | fail) only [↓ptV_l, ↓vcA, vcB, ↓vcD, vcE, ↓reduceIte, Nat.reduceEqDiff, Nat.reduceAdd, Nat.reduceMul, Nat.reduceLeDiff, Int.reduceLE, Int.reduceLT, Int.reduceEq, Int.reduceToNat, Int.reduceAdd, Int.reduceSub, Int.reduceMul, Int.reduceNeg, reduceCtorEq, Option.bind_some, Option.map_some, List.length_cons, List.length_nil, vcM, List.getElem?_toArray, List.getElem?_cons_zero, List.getElem?_cons_succ]) | skip
  (refine W_at c4_ok ?_; refine ⟨_, rfl, ?_⟩; simp (disch := first | omega | assumption | rfl | (simp only [vcS] <;> omega) | fail) only [↓ptV_l, ↓vcA, vcB, ↓vcD, vcE, ↓reduceIte, Nat.reduceEqDiff, Nat.reduceAdd, Nat.reduceMul, Nat.reduceLeDiff, Int.reduceLE, Int.reduceLT, Int.reduceEq, Int.reduceToNat, Int.reduceAdd, Int.reduceSub, Int.reduceMul, Int.reduceNeg, reduceCtorEq, Option.bind_some, Option.map_some, List.length_cons, List.length_nil, vcM, List.getElem?_toArray, List.getElem?_cons_zero, List.getElem?_cons_succ])
  (refine W_at c4_ok ?_; refine ⟨_, rfl, ?_⟩; simp (disch := first | omega | assumption | rfl | (simp only [vcS] <;> omega) | fail) only [↓ptV_l, ↓vcA, vcB, ↓vcD, vcE, ↓reduceIte, Nat.reduceEqDiff, Nat.reduceAdd, Nat.reduceMul, Nat.reduceLeDiff, Int.reduceLE, Int.reduceLT, Int.reduceEq, Int.reduceToNat, Int.reduceAdd, Int.reduceSub, Int.reduceMul, Int.reduceNeg, reduceCtorEq, Option.bind_some, Option.map_some, List.length_cons, List.length_nil, vcM, List.getElem?_toArray, List.getElem?_cons_zero, List.getElem?_cons_succ, hs])
  (refine W_at c4_ok ?_; refine ⟨_, rfl, ?_⟩; simp (disch := first | omega | assumption | rfl | (simp only [vcS] <;> omega) | fail) only [↓ptV_l, ↓vcA, vcB, ↓vcD, vcE, ↓reduceIte, Nat.reduceEqDiff, Nat.reduceAdd, Nat.reduceMul, Nat.reduceLeDiff, Int.reduceLE, Int.reduceLT, Int.reduceEq, Int.reduceToNat, Int.reduceAdd, Int.reduceSub, Int.reduceMul, Int.reduceNeg, reduceCtorEq, Option.bind_some, Option.map_some, List.length_cons, List.length_nil, vcM, List.getElem?_toArray, List.getElem?_cons_zero, List.getElem?_cons_succ])
  refine callV_ret (new_ok w1 s) ?_
  rintro _ w2 ⟨p, r, rfl, hD2, hE2, hp2, hr2⟩
  have hn0 : (newD s).n = s := by show (max 0 (min (s : Int) 65536)).toNat = s; omega
  have hl0 : (newD s).left = -1 := rfl
  have z1 := hE1.size
  first | (simp (disch := first | omega | assumption | rfl | (simp only [vcS] <;> omega) | fail) only [↓ptV_l, ↓vcA, vcB, ↓vcD, vcE, ↓reduceIte, Nat.reduceEqDiff, Nat.reduceAdd, Nat.reduceMul, Nat.reduceLeDiff, Int.reduceLE, Int.reduceLT, Int.reduceEq, Int.reduceToNat, Int.reduceAdd, Int.reduceSub, Int.reduceMul, Int.reduceNeg, reduceCtorEq, Option.bind_some, Option.map_some, List.length_cons, List.length_nil, vcM, List.getElem?_toArray, List.getElem?_cons_zero, List.getElem?_cons_succ]) | skip
  by_cases h16 : s < 16
  · refine callV_ret (open_small w2 p r _ _ hD2 (by rw [hn0]; exact h16)) ?_
    rintro _ w3 ⟨rfl, hw⟩
    obtain rfl : w2 = w3 := hw.symm
    have hlt : ((s : Nat) : Int) < 16 := by omega
    first | (simp (disch := first | omega | assumption | rfl | (simp only [vcS] <;> omega) | fail) only [↓ptV_l, ↓vcA, vcB, ↓vcD, vcE, ↓reduceIte, Nat.reduceEqDiff, Nat.reduceAdd, Nat.reduceMul, Nat.reduceLeDiff, Int.reduceLE, Int.reduceLT, Int.reduceEq, Int.reduceToNat, Int.reduceAdd, Int.reduceSub, Int.reduceMul, Int.reduceNeg, reduceCtorEq, Option.bind_some, Option.map_some, List.length_cons, List.length_nil, vcM, List.getElem?_toArray, List.getElem?_cons_zero, List.getElem?_cons_succ]) | skip
    (refine W_at c4_ok ?_; refine ⟨_, rfl, ?_⟩; simp (disch := first | omega | assumption | rfl | (simp only [vcS] <;> omega) | fail) only [↓ptV_l, ↓vcA, vcB, ↓vcD, vcE, ↓reduceIte, Nat.reduceEqDiff, Nat.reduceAdd, Nat.reduceMul, Nat.reduceLeDiff, Int.reduceLE, Int.reduceLT, Int.reduceEq, Int.reduceToNat, Int.reduceAdd, Int.reduceSub, Int.reduceMul, Int.reduceNeg, reduceCtorEq, Option.bind_some, Option.map_some, List.length_cons, List.length_nil, vcM, List.getElem?_toArray, List.getElem?_cons_zero, List.getElem?_cons_succ, hlt])
    (refine W_at c4_ok ?_; refine ⟨_, rfl, ?_⟩; simp (disch := first | omega | assumption | rfl | (simp only [vcS] <;> omega) | fail) only [↓ptV_l, ↓vcA, vcB, ↓vcD, vcE, ↓reduceIte, Nat.reduceEqDiff, Nat.reduceAdd, Nat.reduceMul, Nat.reduceLeDiff, Int.reduceLE, Int.reduceLT, Int.reduceEq, Int.reduceToNat, Int.reduceAdd, Int.reduceSub, Int.reduceMul, Int.reduceNeg, reduceCtorEq, Option.bind_some, Option.map_some, List.length_cons, List.length_nil, vcM, List.getElem?_toArray, List.getElem?_cons_zero, List.getElem?_cons_succ])
    (refine W_at c4_ok ?_; refine ⟨_, rfl, ?_⟩; simp (disch := first | omega | assumption | rfl | (simp only [vcS] <;> omega) | fail) only [↓ptV_l, ↓vcA, vcB, ↓vcD, vcE, ↓reduceIte, Nat.reduceEqDiff, Nat.reduceAdd, Nat.reduceMul, Nat.reduceLeDiff, Int.reduceLE, Int.reduceLT, Int.reduceEq, Int.reduceToNat, Int.reduceAdd, Int.reduceSub, Int.reduceMul, Int.reduceNeg, reduceCtorEq, Option.bind_some, Option.map_some, List.length_cons, List.length_nil, vcM, List.getElem?_toArray, List.getElem?_cons_zero, List.getElem?_cons_succ, eqP_nn])
    (refine W_at c4_ok ?_; refine ⟨_, rfl, ?_⟩; simp (disch := first | omega | assumption | rfl | (simp only [vcS] <;> omega) | fail) only [↓ptV_l, ↓vcA, vcB, ↓vcD, vcE, ↓reduceIte, Nat.reduceEqDiff, Nat.reduceAdd, Nat.reduceMul, Nat.reduceLeDiff, Int.reduceLE, Int.reduceLT, Int.reduceEq, Int.reduceToNat, Int.reduceAdd, Int.reduceSub, Int.reduceMul, Int.reduceNeg, reduceCtorEq, Option.bind_some, Option.map_some, List.length_cons, List.length_nil, vcM, List.getElem?_toArray, List.getElem?_cons_zero, List.getElem?_cons_succ, Ret_returned])
    exact hE1.ext hE2
  have hG0 : Good (newD s) J0 := new_good (by omega)
  generalize newD s = d0 at hD2 hG0 hn0 hl0
  refine callV_ret (open_ok' w2 p r _ d0 J0 hD2 hG0.inv hG0.queue hG0.alive) ?_
  intro u w3 hO
  obtain ⟨jp, sv, rv, rfl, hS3, hE3, _, _⟩ := OpenR.sys (base := w.heap.size) hD2 (hE1.ext hE2).size (fun g hg => by rcases hg with rfl | rfl | hg; omega; omega; cases hg) hO
  have hnlt : ¬ ((s : Nat) : Int) < 16 := by omega
  first | (simp (disch := first | omega | assumption | rfl | (simp only [vcS] <;> omega) | fail) only [↓ptV_l, ↓vcA, vcB, ↓vcD, vcE, ↓reduceIte, Nat.reduceEqDiff, Nat.reduceAdd, Nat.reduceMul, Nat.reduceLeDiff, Int.reduceLE, Int.reduceLT, Int.reduceEq, Int.reduceToNat, Int.reduceAdd, Int.reduceSub, Int.reduceMul, Int.reduceNeg, reduceCtorEq, Option.bind_some, Option.map_some, List.length_cons, List.length_nil, vcM, List.getElem?_toArray, List.getElem?_cons_zero, List.getElem?_cons_succ]) | skip
  (refine W_at c4_ok ?_; refine ⟨_, rfl, ?_⟩; simp (disch := first | omega | assumption | rfl | (simp only [vcS] <;> omega) | fail) only [↓ptV_l, ↓vcA, vcB, ↓vcD, vcE, ↓reduceIte, Nat.reduceEqDiff, Nat.reduceAdd, Nat.reduceMul, Nat.reduceLeDiff, Int.reduceLE, Int.reduceLT, Int.reduceEq, Int.reduceToNat, Int.reduceAdd, Int.reduceSub, Int.reduceMul, Int.reduceNeg, reduceCtorEq, Option.bind_some, Option.map_some, List.length_cons, List.length_nil, vcM, List.getElem?_toArray, List.getElem?_cons_zero, List.getElem?_cons_succ, hnlt])
  (refine W_at c4_ok ?_; refine ⟨_, rfl, ?_⟩; simp (disch := first | omega | assumption | rfl | (simp only [vcS] <;> omega) | fail) only [↓ptV_l, ↓vcA, vcB, ↓vcD, vcE, ↓reduceIte, Nat.reduceEqDiff, Nat.reduceAdd, Nat.reduceMul, Nat.reduceLeDiff, Int.reduceLE, Int.reduceLT, Int.reduceEq, Int.reduceToNat, Int.reduceAdd, Int.reduceSub, Int.reduceMul, Int.reduceNeg, reduceCtorEq, Option.bind_some, Option.map_some, List.length_cons, List.length_nil, vcM, List.getElem?_toArray, List.getElem?_cons_zero, List.getElem?_cons_succ])
  have hw32 : IntKind.i64.wrap (32 * ((s : Nat) : Int)) = 32 * (s : Int) := wrap_i64 (by omega) (by omega)
  have hw33 : IntKind.i64.wrap (32 * ((s : Nat) : Int) - 256) = 32 * (s : Int) - 256 := wrap_i64 (by omega) (by omega)
  have hr0 : ¬ roomF d0 J0 < 32 * (s : Int) - 256 := by unfold roomF secs; rw [hn0]; have : J0.pos = 0 := rfl; omega
  (refine W_at c4_ok ?_; refine ⟨_, rfl, ?_⟩; simp (disch := first | omega | assumption | rfl | (simp only [vcS] <;> omega) | fail) only [↓vcL1, ptS2_eq, ↓vcA, vcB, ↓vcD, vcE, ↓reduceIte, Nat.reduceEqDiff, Nat.reduceAdd, Nat.reduceMul, Nat.reduceLeDiff, Int.reduceLE, Int.reduceLT, Int.reduceEq, Int.reduceToNat, Int.reduceAdd, Int.reduceSub, Int.reduceMul, Int.reduceNeg, reduceCtorEq, Option.bind_some, Option.map_some, List.length_cons, List.length_nil, vcM, List.getElem?_toArray, List.getElem?_cons_zero, List.getElem?_cons_succ, eqP_pn])
  refine callV_ret (Room_ok w3 jp p r sv rv _ J0 d0 hS3.j hS3.d hG0.inv.ok (by omega) (by simp [J0])) ?_
  rintro _ w4 ⟨rfl, hE4⟩
  simp (disch := first | omega | assumption | rfl | (simp only [vcS] <;> omega) | fail) only [↓vcL2, ptS1_eq, ↓vcA, vcB, ↓vcD, vcE, ↓reduceIte, Nat.reduceEqDiff, Nat.reduceAdd, Nat.reduceMul, Nat.reduceLeDiff, Int.reduceLE, Int.reduceLT, Int.reduceEq, Int.reduceToNat, Int.reduceAdd, Int.reduceSub, Int.reduceMul, Int.reduceNeg, reduceCtorEq, Option.bind_some, Option.map_some, List.length_cons, List.length_nil, vcM, List.getElem?_toArray, List.getElem?_cons_zero, List.getElem?_cons_succ, hw32, hw33, hr0]
  (refine W_at c4_ok ?_; refine ⟨_, rfl, ?_⟩; simp (disch := first | omega | assumption | rfl | (simp only [vcS] <;> omega) | fail) only [↓ptV_l, ↓vcA, vcB, ↓vcD, vcE, ↓reduceIte, Nat.reduceEqDiff, Nat.reduceAdd, Nat.reduceMul, Nat.reduceLeDiff, Int.reduceLE, Int.reduceLT, Int.reduceEq, Int.reduceToNat, Int.reduceAdd, Int.reduceSub, Int.reduceMul, Int.reduceNeg, reduceCtorEq, Option.bind_some, Option.map_some, List.length_cons, List.length_nil, vcM, List.getElem?_toArray, List.getElem?_cons_zero, List.getElem?_cons_succ])
  (refine W_at c4_ok ?_; refine ⟨_, rfl, ?_⟩; simp (disch := first | omega | assumption | rfl | (simp only [vcS] <;> omega) | fail) only [↓ptV_l, ↓vcA, vcB, ↓vcD, vcE, ↓reduceIte, Nat.reduceEqDiff, Nat.reduceAdd, Nat.reduceMul, Nat.reduceLeDiff, Int.reduceLE, Int.reduceLT, Int.reduceEq, Int.reduceToNat, Int.reduceAdd, Int.reduceSub, Int.reduceMul, Int.reduceNeg, reduceCtorEq, Option.bind_some, Option.map_some, List.length_cons, List.length_nil, vcM, List.getElem?_toArray, List.getElem?_cons_zero, List.getElem?_cons_succ])
  have hE5 : Ext w4 (w4.alloc (.cells (zc [(2, .slice none 0 0)]) 33)) := (Keep.refl _ w4).alloc _
  have hp7 : (w4.alloc (.cells (zc [(2, .slice none 0 0)]) 33)).heap[w4.heap.size]? = some (.cells #[.slice none 0 0, .slice none 0 0] 33 (0, 0)) := heap_new _ _ _ rfl
  have hp7b : w.heap.size ≤ w4.heap.size := (((hE1.ext hE2).ext hE3).ext hE4).size
  have hEE5 : Ext w (w4.alloc (.cells (zc [(2, .slice none 0 0)]) 33)) := (((hE1.ext hE2).ext hE3).ext hE4).ext hE5
  have hS5 := (hS3.ext hE4).ext hE5
  generalize World.alloc _ _ = w5 at hE5 hp7 hEE5 hS5 ⊢
  generalize w4.heap.size = p7 at hp7 hp7b ⊢
  have bz : ∀ m : Nat, byt (List.replicate m (0 : Int)) := fun m x hx => by have := List.eq_of_mem_replicate hx; omega
  -- the end
  have fin : ∀ (i : Nat) (wj : World) (sv rv qv sw rw : Value) (J : JS) (d : DS) (tl : Env), i ≤ 30 → JSys w.heap.size wj jp p r sv rv qv J d → Good d J → d.left = -1 → d.n = s → Small J i 9000 →
      TAt (fun g => ¬ blk rv g) wj sw rw J.state J.recs → wj.heap[p7]? = some (.cells #[sw, rw] 33 (0, 0)) → Ext w wj →
      W Try.prog (Ret fun u w' => u = .bool true ∧ Ext w w') 4 2 ((0, .int .i64 (s : Nat)) :: (1, .slice q nn c) :: (5, .pointer (some ⟨jp, 0, none⟩)) :: (7, .pointer (some ⟨p7, 0, none⟩)) :: (8, .int .i64 (i : Nat)) :: tl) wj := by
    intro i wj sv rv qv sw rw J d tl hi hS hG hl hn hsm hT h7 hE
    have hby := hG.byts
    have hsmr := hsm.recs
    have hsms := hsm.st
    have hEd : Ext wj wj.drew := (Keep.refl _ wj).drew
    (refine W_at c4_ok ?_; refine ⟨_, rfl, ?_⟩; simp (disch := first | omega | assumption | rfl | (simp only [vcS] <;> omega) | fail) only [↓vcL1, ptS2_eq, ↓vcA, vcB, ↓vcD, vcE, ↓reduceIte, Nat.reduceEqDiff, Nat.reduceAdd, Nat.reduceMul, Nat.reduceLeDiff, Int.reduceLE, Int.reduceLT, Int.reduceEq, Int.reduceToNat, Int.reduceAdd, Int.reduceSub, Int.reduceMul, Int.reduceNeg, reduceCtorEq, Option.bind_some, Option.map_some, List.length_cons, List.length_nil, vcM, List.getElem?_toArray, List.getElem?_cons_zero, List.getElem?_cons_succ])
    refine mkB (m := 65536) (by omega) fun wa hO hEa => ?_
    have hxa := (ByT.own hO).x
    have hSa := hS.ext (hEd.ext hEa)
    have hl1 : (List.replicate 65536 (0 : Int)).length = 65536 := List.length_replicate
    generalize Value.slice (some ⟨wj.drew.heap.size, 0, none⟩) _ _ = va at hO hxa
    generalize hz : List.replicate 65536 (0 : Int) = z1 at hO hxa hl1
    refine callV_ret (Append_ok wa jp p r sv rv qv J d va z1 hSa.j hSa.d hG hxa (by rw [← hz]; exact bz _) (by omega)) ?_
    intro u wb hAp
    obtain ⟨e, rfl, ⟨_, rfl, hEb⟩ | ⟨h1, _⟩ | ⟨h1, _⟩⟩ := hAp
    case inr.inl => omega
    case inr.inr => omega
    have hok7 : okO (some (Obj.cells #[sw, rw] 33 (0, 0))) 0 2 = True := by simp [okO]
    have hx2 : (#[sw, rw] : Array Value).extract 0 (0 + 2) = #[sw, rw] := rfl
    have s2 : (#[sw, rw] : Array Value).size = 2 := rfl
    have hEjb : Ext wj wb := (hEd.ext hEa).ext hEb
    simp (disch := first | omega | assumption | rfl | (simp only [vcS] <;> omega) | fail) only [↓vcL2, ptS1_eq, ↓vcA, vcB, ↓vcD, vcE, ↓reduceIte, Nat.reduceEqDiff, Nat.reduceAdd, Nat.reduceMul, Nat.reduceLeDiff, Int.reduceLE, Int.reduceLT, Int.reduceEq, Int.reduceToNat, Int.reduceAdd, Int.reduceSub, Int.reduceMul, Int.reduceNeg, reduceCtorEq, Option.bind_some, Option.map_some, List.length_cons, List.length_nil, vcM, List.getElem?_toArray, List.getElem?_cons_zero, List.getElem?_cons_succ, eq_self]
    refine mkB (m := 1048577) (by omega) fun wc hO2 hEc => ?_
    have hxc := (ByT.own hO2).x
    have hSc := (hS.ext hEjb).ext hEc
    have hl2 : (List.replicate 1048577 (0 : Int)).length = 1048577 := List.length_replicate
    generalize Value.slice (some ⟨wb.heap.size, 0, none⟩) _ _ = vc at hO2 hxc
    generalize hz2 : List.replicate 1048577 (0 : Int) = z2 at hO2 hxc hl2
    refine callV_ret (Compact_ok wc jp p r sv rv qv J d vc z2 hSc.j hSc.d hG hxc (by rw [← hz2]; exact bz _) (by omega)) ?_
    intro u we hAp
    obtain ⟨e, rfl, ⟨_, rfl, hEe⟩ | ⟨h1, _⟩ | ⟨h1, _⟩⟩ := hAp
    case inr.inl => omega
    case inr.inr => omega
    have hEje : Ext wj we := (hEjb.ext hEc).ext hEe
    have h7e := hEje.at h7 (fun h => h)
    simp (disch := first | omega | assumption | rfl | (simp only [vcS] <;> omega) | fail) only [↓vcL1, ptS2_eq, ↓vcA, vcB, ↓vcD, vcE, ↓reduceIte, Nat.reduceEqDiff, Nat.reduceAdd, Nat.reduceMul, Nat.reduceLeDiff, Int.reduceLE, Int.reduceLT, Int.reduceEq, Int.reduceToNat, Int.reduceAdd, Int.reduceSub, Int.reduceMul, Int.reduceNeg, reduceCtorEq, Option.bind_some, Option.map_some, List.length_cons, List.length_nil, vcM, List.getElem?_toArray, List.getElem?_cons_zero, List.getElem?_cons_succ, eq_self, h7e, hok7, hx2, s2]
    refine callV_ret (told_ok we jp p sv rv J (hS.ext hEje).j (by omega) (by omega) (fun b hb => Nat.le_trans (hsm.len b hb) (by omega))) ?_
    rintro _ wm ⟨s1, r1, rfl, hT1, hEm⟩
    have h7m := hEm.at h7e (fun h => h)
    simp (disch := first | omega | assumption | rfl | (simp only [vcS] <;> omega) | fail) only [↓vcL2, ptS1_eq, ↓vcA, vcB, ↓vcD, vcE, ↓reduceIte, Nat.reduceEqDiff, Nat.reduceAdd, Nat.reduceMul, Nat.reduceLeDiff, Int.reduceLE, Int.reduceLT, Int.reduceEq, Int.reduceToNat, Int.reduceAdd, Int.reduceSub, Int.reduceMul, Int.reduceNeg, reduceCtorEq, Option.bind_some, Option.map_some, List.length_cons, List.length_nil, vcM, List.getElem?_toArray, List.getElem?_cons_zero, List.getElem?_cons_succ, h7m, hok7, hx2, s2]
    refine callV_ret (rsame_ok wm _ _ s1 r1 sw rw J.state J.state J.recs J.recs hT1 (hT.ext (hEje.ext hEm)) hby.1 hby.1 hby.2 hby.2 (by omega)) ?_
    rintro _ wn ⟨rfl, hEn⟩
    rw [show decide (J.state = J.state ∧ J.recs = J.recs) = true from decide_eq_true ⟨rfl, rfl⟩]
    simp (disch := first | omega | assumption | rfl | (simp only [vcS] <;> omega) | fail) only [↓vcL1, ptS2_eq, ↓vcA, vcB, ↓vcD, vcE, ↓reduceIte, Nat.reduceEqDiff, Nat.reduceAdd, Nat.reduceMul, Nat.reduceLeDiff, Int.reduceLE, Int.reduceLT, Int.reduceEq, Int.reduceToNat, Int.reduceAdd, Int.reduceSub, Int.reduceMul, Int.reduceNeg, reduceCtorEq, Option.bind_some, Option.map_some, List.length_cons, List.length_nil, vcM, List.getElem?_toArray, List.getElem?_cons_zero, List.getElem?_cons_succ]
    (refine W_at c4_ok ?_; refine ⟨_, rfl, ?_⟩; simp (disch := first | omega | assumption | rfl | (simp only [vcS] <;> omega) | fail) only [↓ptV_l, ↓vcA, vcB, ↓vcD, vcE, ↓reduceIte, Nat.reduceEqDiff, Nat.reduceAdd, Nat.reduceMul, Nat.reduceLeDiff, Int.reduceLE, Int.reduceLT, Int.reduceEq, Int.reduceToNat, Int.reduceAdd, Int.reduceSub, Int.reduceMul, Int.reduceNeg, reduceCtorEq, Option.bind_some, Option.map_some, List.length_cons, List.length_nil, vcM, List.getElem?_toArray, List.getElem?_cons_zero, List.getElem?_cons_succ, Ret_returned])
    exact ((hE.ext hEje).ext hEm).ext hEn
  have L : ∀ (k i : Nat) (wj : World) (sv rv qv sw rw : Value) (J : JS) (d : DS), k + i = 30 → JSys w.heap.size wj jp p r sv rv qv J d → Good d J → d.left = -1 → d.n = s → Small J i 9000 →
      TAt (fun g => ¬ blk rv g) wj sw rw J.state J.recs → wj.heap[p7]? = some (.cells #[sw, rw] 33 (0, 0)) → Ext w wj →
      W Try.prog (Ret fun u w' => u = .bool true ∧ Ext w w') 4 35 [(0, .int .i64 (s : Nat)), (1, .slice q nn c), (5, .pointer (some ⟨jp, 0, none⟩)), (7, .pointer (some ⟨p7, 0, none⟩)), (8, .int .i64 (i : Nat))] wj := by
    intro k
    induction k with
    | zero =>
      intro i wj sv rv qv sw rw J d hj hS hG hl hn hsm hT h7 hE
      have c2 : ¬ ((i : Nat) : Int) < 30 := by omega
      by_cases c1 : ((i : Nat) : Int) < (nn : Nat)
      · (refine W_at c4_ok ?_; refine ⟨_, rfl, ?_⟩; simp (disch := first | omega | assumption | rfl | (simp only [vcS] <;> omega) | fail) only [↓ptV_l, ↓vcA, vcB, ↓vcD, vcE, ↓reduceIte, Nat.reduceEqDiff, Nat.reduceAdd, Nat.reduceMul, Nat.reduceLeDiff, Int.reduceLE, Int.reduceLT, Int.reduceEq, Int.reduceToNat, Int.reduceAdd, Int.reduceSub, Int.reduceMul, Int.reduceNeg, reduceCtorEq, Option.bind_some, Option.map_some, List.length_cons, List.length_nil, vcM, List.getElem?_toArray, List.getElem?_cons_zero, List.getElem?_cons_succ, c1, c2])
        (refine W_at c4_ok ?_; refine ⟨_, rfl, ?_⟩; simp (disch := first | omega | assumption | rfl | (simp only [vcS] <;> omega) | fail) only [↓ptV_l, ↓vcA, vcB, ↓vcD, vcE, ↓reduceIte, Nat.reduceEqDiff, Nat.reduceAdd, Nat.reduceMul, Nat.reduceLeDiff, Int.reduceLE, Int.reduceLT, Int.reduceEq, Int.reduceToNat, Int.reduceAdd, Int.reduceSub, Int.reduceMul, Int.reduceNeg, reduceCtorEq, Option.bind_some, Option.map_some, List.length_cons, List.length_nil, vcM, List.getElem?_toArray, List.getElem?_cons_zero, List.getElem?_cons_succ])
        exact fin i wj sv rv qv sw rw J d _ (by omega) hS hG hl hn hsm hT h7 hE
      · (refine W_at c4_ok ?_; refine ⟨_, rfl, ?_⟩; simp (disch := first | omega | assumption | rfl | (simp only [vcS] <;> omega) | fail) only [↓ptV_l, ↓vcA, vcB, ↓vcD, vcE, ↓reduceIte, Nat.reduceEqDiff, Nat.reduceAdd, Nat.reduceMul, Nat.reduceLeDiff, Int.reduceLE, Int.reduceLT, Int.reduceEq, Int.reduceToNat, Int.reduceAdd, Int.reduceSub, Int.reduceMul, Int.reduceNeg, reduceCtorEq, Option.bind_some, Option.map_some, List.length_cons, List.length_nil, vcM, List.getElem?_toArray, List.getElem?_cons_zero, List.getElem?_cons_succ, c1])
        (refine W_at c4_ok ?_; refine ⟨_, rfl, ?_⟩; simp (disch := first | omega | assumption | rfl | (simp only [vcS] <;> omega) | fail) only [↓ptV_l, ↓vcA, vcB, ↓vcD, vcE, ↓reduceIte, Nat.reduceEqDiff, Nat.reduceAdd, Nat.reduceMul, Nat.reduceLeDiff, Int.reduceLE, Int.reduceLT, Int.reduceEq, Int.reduceToNat, Int.reduceAdd, Int.reduceSub, Int.reduceMul, Int.reduceNeg, reduceCtorEq, Option.bind_some, Option.map_some, List.length_cons, List.length_nil, vcM, List.getElem?_toArray, List.getElem?_cons_zero, List.getElem?_cons_succ])
        exact fin i wj sv rv qv sw rw J d _ (by omega) hS hG hl hn hsm hT h7 hE
    | succ k ih =>
      intro i wj sv rv qv sw rw J d hj hS hG hl hn hsm hT h7 hE
      have c2 : ((i : Nat) : Int) < 30 := by omega
      by_cases c1 : ((i : Nat) : Int) < (nn : Nat)
      case neg =>
        (refine W_at c4_ok ?_; refine ⟨_, rfl, ?_⟩; simp (disch := first | omega | assumption | rfl | (simp only [vcS] <;> omega) | fail) only [↓ptV_l, ↓vcA, vcB, ↓vcD, vcE, ↓reduceIte, Nat.reduceEqDiff, Nat.reduceAdd, Nat.reduceMul, Nat.reduceLeDiff, Int.reduceLE, Int.reduceLT, Int.reduceEq, Int.reduceToNat, Int.reduceAdd, Int.reduceSub, Int.reduceMul, Int.reduceNeg, reduceCtorEq, Option.bind_some, Option.map_some, List.length_cons, List.length_nil, vcM, List.getElem?_toArray, List.getElem?_cons_zero, List.getElem?_cons_succ, c1])
        (refine W_at c4_ok ?_; refine ⟨_, rfl, ?_⟩; simp (disch := first | omega | assumption | rfl | (simp only [vcS] <;> omega) | fail) only [↓ptV_l, ↓vcA, vcB, ↓vcD, vcE, ↓reduceIte, Nat.reduceEqDiff, Nat.reduceAdd, Nat.reduceMul, Nat.reduceLeDiff, Int.reduceLE, Int.reduceLT, Int.reduceEq, Int.reduceToNat, Int.reduceAdd, Int.reduceSub, Int.reduceMul, Int.reduceNeg, reduceCtorEq, Option.bind_some, Option.map_some, List.length_cons, List.length_nil, vcM, List.getElem?_toArray, List.getElem?_cons_zero, List.getElem?_cons_succ])
        exact fin i wj sv rv qv sw rw J d _ (by omega) hS hG hl hn hsm hT h7 hE
      have hwi : IntKind.i64.wrap (((i : Nat) : Int) + 1) = ((i + 1 : Nat) : Int) := wrap_i64 (by omega) (by omega)
      -- the checks
      have rest : ∀ (wk : World) (sv rv qv sw rw : Value) (J : JS) (d : DS) (tl : Env), JSys w.heap.size wk jp p r sv rv qv J d → Good d J → d.left = -1 → d.n = s → Small J (i + 1) 9000 →
          TAt (fun g => ¬ blk rv g) wk sw rw J.state J.recs → wk.heap[p7]? = some (.cells #[sw, rw] 33 (0, 0)) → Ext w wk →
          W Try.prog (Ret fun u w' => u = .bool true ∧ Ext w w') 4 8 ((0, .int .i64 (s : Nat)) :: (1, .slice q nn c) :: (5, .pointer (some ⟨jp, 0, none⟩)) :: (7, .pointer (some ⟨p7, 0, none⟩)) :: (8, .int .i64 (i : Nat)) :: tl) wk := by
        intro wk sv rv qv sw rw J d tl hS hG hl hn hsm hT h7 hE
        have hby := hG.byts
        have hsmr := hsm.recs
        have hsms := hsm.st
        have hsmp := hsm.pos
        have hEd : Ext wk wk.drew := (Keep.refl _ wk).drew
        have hok7 : okO (some (Obj.cells #[sw, rw] 33 (0, 0))) 0 2 = True := by simp [okO]
        have hx2 : (#[sw, rw] : Array Value).extract 0 (0 + 2) = #[sw, rw] := rfl
        have s2 : (#[sw, rw] : Array Value).size = 2 := rfl
        (refine W_at c4_ok ?_; refine ⟨_, rfl, ?_⟩; simp (disch := first | omega | assumption | rfl | (simp only [vcS] <;> omega) | fail) only [↓vcL1, ptS2_eq, ↓vcA, vcB, ↓vcD, vcE, ↓reduceIte, Nat.reduceEqDiff, Nat.reduceAdd, Nat.reduceMul, Nat.reduceLeDiff, Int.reduceLE, Int.reduceLT, Int.reduceEq, Int.reduceToNat, Int.reduceAdd, Int.reduceSub, Int.reduceMul, Int.reduceNeg, reduceCtorEq, Option.bind_some, Option.map_some, List.length_cons, List.length_nil, vcM, List.getElem?_toArray, List.getElem?_cons_zero, List.getElem?_cons_succ, h7, hok7, hx2, s2])
        refine callV_ret (told_ok wk.drew jp p sv rv J (hS.ext hEd).j (by omega) (by omega) (fun b hb => Nat.le_trans (hsm.len b hb) (by omega))) ?_
        rintro _ wm ⟨s1, r1, rfl, hT1, hEm⟩
        have h7m := (hEd.ext hEm).at h7 (fun h => h)
        simp (disch := first | omega | assumption | rfl | (simp only [vcS] <;> omega) | fail) only [↓vcL2, ptS1_eq, ↓vcA, vcB, ↓vcD, vcE, ↓reduceIte, Nat.reduceEqDiff, Nat.reduceAdd, Nat.reduceMul, Nat.reduceLeDiff, Int.reduceLE, Int.reduceLT, Int.reduceEq, Int.reduceToNat, Int.reduceAdd, Int.reduceSub, Int.reduceMul, Int.reduceNeg, reduceCtorEq, Option.bind_some, Option.map_some, List.length_cons, List.length_nil, vcM, List.getElem?_toArray, List.getElem?_cons_zero, List.getElem?_cons_succ, h7m, hok7, hx2, s2]
        refine callV_ret (rsame_ok wm _ _ s1 r1 sw rw J.state J.state J.recs J.recs hT1 (hT.ext (hEd.ext hEm)) hby.1 hby.1 hby.2 hby.2 (by omega)) ?_
        rintro _ wn ⟨rfl, hEn⟩
        rw [show decide (J.state = J.state ∧ J.recs = J.recs) = true from decide_eq_true ⟨rfl, rfl⟩]
        have hEkn : Ext wk wn := (hEd.ext hEm).ext hEn
        have hSn := hS.ext hEkn
        have hrb := roomF_b d J
        have hr1 : ¬ roomF d J < -1 := by omega
        have hr2 : ¬ roomF d J > 65535 := by omega
        simp (disch := first | omega | assumption | rfl | (simp only [vcS] <;> omega) | fail) only [↓vcL1, ptS2_eq, ↓vcA, vcB, ↓vcD, vcE, ↓reduceIte, Nat.reduceEqDiff, Nat.reduceAdd, Nat.reduceMul, Nat.reduceLeDiff, Int.reduceLE, Int.reduceLT, Int.reduceEq, Int.reduceToNat, Int.reduceAdd, Int.reduceSub, Int.reduceMul, Int.reduceNeg, reduceCtorEq, Option.bind_some, Option.map_some, List.length_cons, List.length_nil, vcM, List.getElem?_toArray, List.getElem?_cons_zero, List.getElem?_cons_succ]
        refine callV_ret (Room_ok wn jp p r sv rv qv J d hSn.j hSn.d hG.inv.ok (by omega) (by omega)) ?_
        rintro _ wo ⟨rfl, hEo⟩
        have hSo := hSn.ext hEo
        simp (disch := first | omega | assumption | rfl | (simp only [vcS] <;> omega) | fail) only [↓vcL2, ptS1_eq, ↓vcA, vcB, ↓vcD, vcE, ↓reduceIte, Nat.reduceEqDiff, Nat.reduceAdd, Nat.reduceMul, Nat.reduceLeDiff, Int.reduceLE, Int.reduceLT, Int.reduceEq, Int.reduceToNat, Int.reduceAdd, Int.reduceSub, Int.reduceMul, Int.reduceNeg, reduceCtorEq, Option.bind_some, Option.map_some, List.length_cons, List.length_nil, vcM, List.getElem?_toArray, List.getElem?_cons_zero, List.getElem?_cons_succ, hr1]
        refine callV_ret (Room_ok wo jp p r sv rv qv J d hSo.j hSo.d hG.inv.ok (by omega) (by omega)) ?_
        rintro _ wp ⟨rfl, hEp⟩
        simp (disch := first | omega | assumption | rfl | (simp only [vcS] <;> omega) | fail) only [↓vcL1, ptS2_eq, ↓vcA, vcB, ↓vcD, vcE, ↓reduceIte, Nat.reduceEqDiff, Nat.reduceAdd, Nat.reduceMul, Nat.reduceLeDiff, Int.reduceLE, Int.reduceLT, Int.reduceEq, Int.reduceToNat, Int.reduceAdd, Int.reduceSub, Int.reduceMul, Int.reduceNeg, reduceCtorEq, Option.bind_some, Option.map_some, List.length_cons, List.length_nil, vcM, List.getElem?_toArray, List.getElem?_cons_zero, List.getElem?_cons_succ, hr2]
        have hEkp : Ext wk wp := (hEkn.ext hEo).ext hEp
        (refine W_at c4_ok ?_; refine ⟨_, rfl, ?_⟩; simp (disch := first | omega | assumption | rfl | (simp only [vcS] <;> omega) | fail) only [↓ptV_l, ↓vcA, vcB, ↓vcD, vcE, ↓reduceIte, Nat.reduceEqDiff, Nat.reduceAdd, Nat.reduceMul, Nat.reduceLeDiff, Int.reduceLE, Int.reduceLT, Int.reduceEq, Int.reduceToNat, Int.reduceAdd, Int.reduceSub, Int.reduceMul, Int.reduceNeg, reduceCtorEq, Option.bind_some, Option.map_some, List.length_cons, List.length_nil, vcM, List.getElem?_toArray, List.getElem?_cons_zero, List.getElem?_cons_succ])
        (refine W_at c4_ok ?_; refine ⟨_, rfl, ?_⟩; simp (disch := first | omega | assumption | rfl | (simp only [vcS] <;> omega) | fail) only [↓ptV_l, ↓vcA, vcB, ↓vcD, vcE, ↓reduceIte, Nat.reduceEqDiff, Nat.reduceAdd, Nat.reduceMul, Nat.reduceLeDiff, Int.reduceLE, Int.reduceLT, Int.reduceEq, Int.reduceToNat, Int.reduceAdd, Int.reduceSub, Int.reduceMul, Int.reduceNeg, reduceCtorEq, Option.bind_some, Option.map_some, List.length_cons, List.length_nil, vcM, List.getElem?_toArray, List.getElem?_cons_zero, List.getElem?_cons_succ, hwi])
        (refine W_at c4_ok ?_; refine ⟨_, rfl, ?_⟩; simp (disch := first | omega | assumption | rfl | (simp only [vcS] <;> omega) | fail) only [↓ptV_l, ↓vcA, vcB, ↓vcD, vcE, ↓reduceIte, Nat.reduceEqDiff, Nat.reduceAdd, Nat.reduceMul, Nat.reduceLeDiff, Int.reduceLE, Int.reduceLT, Int.reduceEq, Int.reduceToNat, Int.reduceAdd, Int.reduceSub, Int.reduceMul, Int.reduceNeg, reduceCtorEq, Option.bind_some, Option.map_some, List.length_cons, List.length_nil, vcM, List.getElem?_toArray, List.getElem?_cons_zero, List.getElem?_cons_succ])
        exact ih (i + 1) wp sv rv qv sw rw J d (by omega) (hS.ext hEkp) hG hl hn hsm (hT.ext hEkp) (hEkp.at h7 fun h => h) (hE.ext hEkp)
      obtain ⟨gb, go, a, hq, hcell, ha⟩ := hA.at hE (i := i) (by omega)
      subst hq
      have cw : 0 ≤ ((i : Nat) : Int) ∧ ((i : Nat) : Int) < (nn : Nat) := by omega
      obtain ⟨n, hnn⟩ : ∃ n : Nat, max 0 (min a 9000) = (n : Int) := ⟨(max 0 (min a 9000)).toNat, by omega⟩
      have hn9 : n ≤ 9000 := by omega
      (refine W_at c4_ok ?_; refine ⟨_, rfl, ?_⟩; simp (disch := first | omega | assumption | rfl | (simp only [vcS] <;> omega) | fail) only [↓ptV_l, ↓vcA, vcB, ↓vcD, vcE, ↓reduceIte, Nat.reduceEqDiff, Nat.reduceAdd, Nat.reduceMul, Nat.reduceLeDiff, Int.reduceLE, Int.reduceLT, Int.reduceEq, Int.reduceToNat, Int.reduceAdd, Int.reduceSub, Int.reduceMul, Int.reduceNeg, reduceCtorEq, Option.bind_some, Option.map_some, List.length_cons, List.length_nil, vcM, List.getElem?_toArray, List.getElem?_cons_zero, List.getElem?_cons_succ, c1, c2])
      (refine W_at c4_ok ?_; refine ⟨_, rfl, ?_⟩; simp (disch := first | omega | assumption | rfl | (simp only [vcS] <;> omega) | fail) only [↓ptV_l, ↓vcA, vcB, ↓vcD, vcE, ↓reduceIte, Nat.reduceEqDiff, Nat.reduceAdd, Nat.reduceMul, Nat.reduceLeDiff, Int.reduceLE, Int.reduceLT, Int.reduceEq, Int.reduceToNat, Int.reduceAdd, Int.reduceSub, Int.reduceMul, Int.reduceNeg, reduceCtorEq, Option.bind_some, Option.map_some, List.length_cons, List.length_nil, vcM, List.getElem?_toArray, List.getElem?_cons_zero, List.getElem?_cons_succ])
      (refine W_at c4_ok ?_; refine ⟨_, rfl, ?_⟩; simp (disch := first | omega | assumption | rfl | (simp only [vcS] <;> omega) | fail) only [↓ptV_l, ↓vcA, vcB, ↓vcD, vcE, ↓reduceIte, Nat.reduceEqDiff, Nat.reduceAdd, Nat.reduceMul, Nat.reduceLeDiff, Int.reduceLE, Int.reduceLT, Int.reduceEq, Int.reduceToNat, Int.reduceAdd, Int.reduceSub, Int.reduceMul, Int.reduceNeg, reduceCtorEq, Option.bind_some, Option.map_some, List.length_cons, List.length_nil, vcM, List.getElem?_toArray, List.getElem?_cons_zero, List.getElem?_cons_succ, cw, Int.toNat_natCast, Nat.mul_one, hcell, hnn])
      (refine W_at c4_ok ?_; refine ⟨_, rfl, ?_⟩; simp (disch := first | omega | assumption | rfl | (simp only [vcS] <;> omega) | fail) only [↓ptV_l, ↓vcA, vcB, ↓vcD, vcE, ↓reduceIte, Nat.reduceEqDiff, Nat.reduceAdd, Nat.reduceMul, Nat.reduceLeDiff, Int.reduceLE, Int.reduceLT, Int.reduceEq, Int.reduceToNat, Int.reduceAdd, Int.reduceSub, Int.reduceMul, Int.reduceNeg, reduceCtorEq, Option.bind_some, Option.map_some, List.length_cons, List.length_nil, vcM, List.getElem?_toArray, List.getElem?_cons_zero, List.getElem?_cons_succ])
      refine mkB (by omega) fun wa hO hEa => ?_
      generalize hb : List.replicate n (0 : Int) = b at hO
      have hbl : b.length = n := by rw [← hb, List.length_replicate]
      have hbb : byt b := by rw [← hb]; exact bz n
      have hEwa := hE.ext hEa
      have hSa := hS.ext hEa
      have hJp := hsm.pos
      have hds : secs d.n = secs s := by rw [hn]
      have hrb := roomF_b d J
      have hsec : 32 * s ≤ 64 * secs s + 64 := by unfold secs; omega
      (refine W_at c4_ok ?_; refine ⟨_, rfl, ?_⟩; simp (disch := first | omega | assumption | rfl | (simp only [vcS] <;> omega) | fail) only [↓ptV_l, ↓vcA, vcB, ↓vcD, vcE, ↓reduceIte, Nat.reduceEqDiff, Nat.reduceAdd, Nat.reduceMul, Nat.reduceLeDiff, Int.reduceLE, Int.reduceLT, Int.reduceEq, Int.reduceToNat, Int.reduceAdd, Int.reduceSub, Int.reduceMul, Int.reduceNeg, reduceCtorEq, Option.bind_some, Option.map_some, List.length_cons, List.length_nil, vcM, List.getElem?_toArray, List.getElem?_cons_zero, List.getElem?_cons_succ])
      refine callV_ret (Room_ok wa jp p r sv rv qv J d hSa.j hSa.d hG.inv.ok (by omega) (by omega)) ?_
      rintro _ wr ⟨rfl, hEr⟩
      have hSr := hSa.ext hEr
      have hTr := (hT.ext (hEa.ext hEr)).all
      have h7r := (hEa.ext hEr).at h7 (fun h => h)
      have hOr := hO.ext hEr
      have hEwr := hEwa.ext hEr
      have hbase := hEwr.size
      have hxr : ByX wr (.slice (some ⟨wj.heap.size, 0, none⟩) n n) b := (ByT.own hOr).x
      generalize Value.slice (some ⟨wj.heap.size, 0, none⟩) n n = vb at hO hOr hxr ⊢
      clear hO
      first | (simp (disch := first | omega | assumption | rfl | (simp only [vcS] <;> omega) | fail) only [↓ptV_l, ↓vcA, vcB, ↓vcD, vcE, ↓reduceIte, Nat.reduceEqDiff, Nat.reduceAdd, Nat.reduceMul, Nat.reduceLeDiff, Int.reduceLE, Int.reduceLT, Int.reduceEq, Int.reduceToNat, Int.reduceAdd, Int.reduceSub, Int.reduceMul, Int.reduceNeg, reduceCtorEq, Option.bind_some, Option.map_some, List.length_cons, List.length_nil, vcM, List.getElem?_toArray, List.getElem?_cons_zero, List.getElem?_cons_succ]) | skip
      have hok7 : okO (some (Obj.cells #[sw, rw] 33 (0, 0))) 0 2 = True := by simp [okO]
      have hx2 : (#[sw, rw] : Array Value).extract 0 (0 + 2) = #[sw, rw] := rfl
      have s2 : (#[sw, rw] : Array Value).size = 2 := rfl
      have hvb : ∀ wb, Keep (JB jp p r rv qv) wr wb → Rd wb vb b := fun wb k => hxr.1.keep k fun q' n' c' e => by
        obtain ⟨cc, fr, hcc⟩ := hxr.2 q'.block (by rw [e]; rfl)
        exact hSr.nb hcc (by decide) (by decide) (by decide) (by decide)
      by_cases h5 : Int.tmod ((i : Nat) : Int) 5 = 3
      · (refine W_at c4_ok ?_; refine ⟨_, rfl, ?_⟩; simp (disch := first | omega | assumption | rfl | (simp only [vcS] <;> omega) | fail) only [↓ptV_l, ↓vcA, vcB, ↓vcD, vcE, ↓reduceIte, Nat.reduceEqDiff, Nat.reduceAdd, Nat.reduceMul, Nat.reduceLeDiff, Int.reduceLE, Int.reduceLT, Int.reduceEq, Int.reduceToNat, Int.reduceAdd, Int.reduceSub, Int.reduceMul, Int.reduceNeg, reduceCtorEq, Option.bind_some, Option.map_some, List.length_cons, List.length_nil, vcM, List.getElem?_toArray, List.getElem?_cons_zero, List.getElem?_cons_succ, h5])
        (refine W_at c4_ok ?_; refine ⟨_, rfl, ?_⟩; simp (disch := first | omega | assumption | rfl | (simp only [vcS] <;> omega) | fail) only [↓ptV_l, ↓vcA, vcB, ↓vcD, vcE, ↓reduceIte, Nat.reduceEqDiff, Nat.reduceAdd, Nat.reduceMul, Nat.reduceLeDiff, Int.reduceLE, Int.reduceLT, Int.reduceEq, Int.reduceToNat, Int.reduceAdd, Int.reduceSub, Int.reduceMul, Int.reduceNeg, reduceCtorEq, Option.bind_some, Option.map_some, List.length_cons, List.length_nil, vcM, List.getElem?_toArray, List.getElem?_cons_zero, List.getElem?_cons_succ])
        (refine W_at c4_ok ?_; refine ⟨_, rfl, ?_⟩; simp (disch := first | omega | assumption | rfl | (simp only [vcS] <;> omega) | fail) only [↓ptV_l, ↓vcA, vcB, ↓vcD, vcE, ↓reduceIte, Nat.reduceEqDiff, Nat.reduceAdd, Nat.reduceMul, Nat.reduceLeDiff, Int.reduceLE, Int.reduceLT, Int.reduceEq, Int.reduceToNat, Int.reduceAdd, Int.reduceSub, Int.reduceMul, Int.reduceNeg, reduceCtorEq, Option.bind_some, Option.map_some, List.length_cons, List.length_nil, vcM, List.getElem?_toArray, List.getElem?_cons_zero, List.getElem?_cons_succ])
        refine callV_ret (Compact_ok wr jp p r sv rv qv J d _ b hSr.j hSr.d hG hxr hbb (by omega)) ?_
        intro u wb hAp
        by_cases hfit : b.length + 6 ≤ 64 * secs d.n
        · obtain ⟨rfl, d', hG', hl', hn', hT'⟩ := cmpR_quiet hl (by omega) hfit hAp
          obtain ⟨sv', rv', qv', hSt⟩ := JTo.step hSr hbase hT'
          have h7b := hSt.keep.at h7r (hSr.nb h7r (by decide) (by decide) (by decide) (by decide))
          have hEwb : Ext w wb := hEwr.trans hSt.keep fun i hi hg => by have := hSr.base i hg; omega
          first | (simp (disch := first | omega | assumption | rfl | (simp only [vcS] <;> omega) | fail) only [↓ptV_l, ↓vcA, vcB, ↓vcD, vcE, ↓reduceIte, Nat.reduceEqDiff, Nat.reduceAdd, Nat.reduceMul, Nat.reduceLeDiff, Int.reduceLE, Int.reduceLT, Int.reduceEq, Int.reduceToNat, Int.reduceAdd, Int.reduceSub, Int.reduceMul, Int.reduceNeg, reduceCtorEq, Option.bind_some, Option.map_some, List.length_cons, List.length_nil, vcM, List.getElem?_toArray, List.getElem?_cons_zero, List.getElem?_cons_succ]) | skip
          have hwm : IntKind.i64.wrap (32 * ((s : Nat) : Int) - 256 - (n : Nat)) = 32 * (s : Int) - 256 - n := wrap_i64 (by omega) (by omega)
          have hrm : ¬ roomF d' (J.cmp b) < 32 * (s : Int) - 256 - (n : Nat) := by
            unfold roomF; rw [hn', hn]
            have : (J.cmp b).pos = 5 + b.length := rfl
            omega
          have go : ∀ (x : Bool), W Try.prog (Ret fun u w' => u = .bool true ∧ Ext w w') 4 18 [(0, .int .i64 (s : Nat)), (1, .slice (some ⟨gb, go, none⟩) nn c), (5, .pointer (some ⟨jp, 0, none⟩)), (6, .int .i64 0), (7, .pointer (some ⟨p7, 0, none⟩)), (8, .int .i64 (i : Nat)), (9, .int .i64 (n : Nat)), (10, vb), (87, .bool false)] wb := fun _ => by
            (refine W_at c4_ok ?_; refine ⟨_, rfl, ?_⟩; simp (disch := first | omega | assumption | rfl | (simp only [vcS] <;> omega) | fail) only [↓ptV_l, ↓vcA, vcB, ↓vcD, vcE, ↓reduceIte, Nat.reduceEqDiff, Nat.reduceAdd, Nat.reduceMul, Nat.reduceLeDiff, Int.reduceLE, Int.reduceLT, Int.reduceEq, Int.reduceToNat, Int.reduceAdd, Int.reduceSub, Int.reduceMul, Int.reduceNeg, reduceCtorEq, Option.bind_some, Option.map_some, List.length_cons, List.length_nil, vcM, List.getElem?_toArray, List.getElem?_cons_zero, List.getElem?_cons_succ])
            (refine W_at c4_ok ?_; refine ⟨_, rfl, ?_⟩; simp (disch := first | omega | assumption | rfl | (simp only [vcS] <;> omega) | fail) only [↓ptV_l, ↓vcA, vcB, ↓vcD, vcE, ↓reduceIte, Nat.reduceEqDiff, Nat.reduceAdd, Nat.reduceMul, Nat.reduceLeDiff, Int.reduceLE, Int.reduceLT, Int.reduceEq, Int.reduceToNat, Int.reduceAdd, Int.reduceSub, Int.reduceMul, Int.reduceNeg, reduceCtorEq, Option.bind_some, Option.map_some, List.length_cons, List.length_nil, vcM, List.getElem?_toArray, List.getElem?_cons_zero, List.getElem?_cons_succ, eq_self])
            (refine W_at c4_ok ?_; refine ⟨_, rfl, ?_⟩; simp (disch := first | omega | assumption | rfl | (simp only [vcS] <;> omega) | fail) only [↓ptV_l, ↓vcA, vcB, ↓vcD, vcE, ↓reduceIte, Nat.reduceEqDiff, Nat.reduceAdd, Nat.reduceMul, Nat.reduceLeDiff, Int.reduceLE, Int.reduceLT, Int.reduceEq, Int.reduceToNat, Int.reduceAdd, Int.reduceSub, Int.reduceMul, Int.reduceNeg, reduceCtorEq, Option.bind_some, Option.map_some, List.length_cons, List.length_nil, vcM, List.getElem?_toArray, List.getElem?_cons_zero, List.getElem?_cons_succ])
            (refine W_at c4_ok ?_; refine ⟨_, rfl, ?_⟩; simp (disch := first | omega | assumption | rfl | (simp only [vcS] <;> omega) | fail) only [↓ptV_l, ↓vcA, vcB, ↓vcD, vcE, ↓reduceIte, Nat.reduceEqDiff, Nat.reduceAdd, Nat.reduceMul, Nat.reduceLeDiff, Int.reduceLE, Int.reduceLT, Int.reduceEq, Int.reduceToNat, Int.reduceAdd, Int.reduceSub, Int.reduceMul, Int.reduceNeg, reduceCtorEq, Option.bind_some, Option.map_some, List.length_cons, List.length_nil, vcM, List.getElem?_toArray, List.getElem?_cons_zero, List.getElem?_cons_succ])
            refine callV_ret (rcompact_ok wb vb b (hvb wb hSt.keep) (by omega)) ?_
            rintro _ wc ⟨sw', rw', rfl, hTc, hEc⟩
            have h7c := hEc.at h7b (fun h => h)
            have s2' : (#[sw', rw'] : Array Value).size = 2 := rfl
            simp (disch := first | omega | assumption | rfl | (simp only [vcS] <;> omega) | fail) only [↓ptV_l, ↓vcA, vcB, ↓vcD, vcE, ↓reduceIte, Nat.reduceEqDiff, Nat.reduceAdd, Nat.reduceMul, Nat.reduceLeDiff, Int.reduceLE, Int.reduceLT, Int.reduceEq, Int.reduceToNat, Int.reduceAdd, Int.reduceSub, Int.reduceMul, Int.reduceNeg, reduceCtorEq, Option.bind_some, Option.map_some, List.length_cons, List.length_nil, vcM, List.getElem?_toArray, List.getElem?_cons_zero, List.getElem?_cons_succ, h7c, hok7, hx2, s2']
            refine ⟨⟨hTc.st.1.one, hTc.recs.one⟩, ?_⟩
            obtain ⟨k1, k2, k3, k4⟩ := hSt.after hSr hEc (hTc.mono fun x hx => .inr hx) h7c rfl
            have hEwd : Ext w _ := (hEwb.ext hEc).trans k4 fun i hi e => by omega
            generalize World.putN _ _ _ _ = wd at k1 k2 k3 k4 hEwd ⊢
            (refine W_at c4_ok ?_; refine ⟨_, rfl, ?_⟩; simp (disch := first | omega | assumption | rfl | (simp only [vcS] <;> omega) | fail) only [↓ptV_l, ↓vcA, vcB, ↓vcD, vcE, ↓reduceIte, Nat.reduceEqDiff, Nat.reduceAdd, Nat.reduceMul, Nat.reduceLeDiff, Int.reduceLE, Int.reduceLT, Int.reduceEq, Int.reduceToNat, Int.reduceAdd, Int.reduceSub, Int.reduceMul, Int.reduceNeg, reduceCtorEq, Option.bind_some, Option.map_some, List.length_cons, List.length_nil, vcM, List.getElem?_toArray, List.getElem?_cons_zero, List.getElem?_cons_succ])
            refine callV_ret (Room_ok wd jp p r sv' rv' qv' (J.cmp b) d' k1.j k1.d hG'.inv.ok (by omega) (by show 5 + b.length ≤ _; omega)) ?_
            rintro _ we ⟨rfl, hEe⟩
            simp (disch := first | omega | assumption | rfl | (simp only [vcS] <;> omega) | fail) only [↓ptV_l, ↓vcA, vcB, ↓vcD, vcE, ↓reduceIte, Nat.reduceEqDiff, Nat.reduceAdd, Nat.reduceMul, Nat.reduceLeDiff, Int.reduceLE, Int.reduceLT, Int.reduceEq, Int.reduceToNat, Int.reduceAdd, Int.reduceSub, Int.reduceMul, Int.reduceNeg, reduceCtorEq, Option.bind_some, Option.map_some, List.length_cons, List.length_nil, vcM, List.getElem?_toArray, List.getElem?_cons_zero, List.getElem?_cons_succ, hw32, hw33, hwm, hrm]
            (refine W_at c4_ok ?_; refine ⟨_, rfl, ?_⟩; simp (disch := first | omega | assumption | rfl | (simp only [vcS] <;> omega) | fail) only [↓ptV_l, ↓vcA, vcB, ↓vcD, vcE, ↓reduceIte, Nat.reduceEqDiff, Nat.reduceAdd, Nat.reduceMul, Nat.reduceLeDiff, Int.reduceLE, Int.reduceLT, Int.reduceEq, Int.reduceToNat, Int.reduceAdd, Int.reduceSub, Int.reduceMul, Int.reduceNeg, reduceCtorEq, Option.bind_some, Option.map_some, List.length_cons, List.length_nil, vcM, List.getElem?_toArray, List.getElem?_cons_zero, List.getElem?_cons_succ])
            exact rest we sv' rv' qv' sw' rw' (J.cmp b) d' _ (k1.ext hEe) hG' hl' (hn'.trans hn) (Small.cmp (by omega)) (k2.ext hEe) (hEe.at k3 fun h => h) (hEwd.ext hEe)
          by_cases hlq : ((n : Nat) : Int) ≤ 32 * (s : Int) - 256
          · (refine W_at c4_ok ?_; refine ⟨_, rfl, ?_⟩; simp (disch := first | omega | assumption | rfl | (simp only [vcS] <;> omega) | fail) only [↓ptV_l, ↓vcA, vcB, ↓vcD, vcE, ↓reduceIte, Nat.reduceEqDiff, Nat.reduceAdd, Nat.reduceMul, Nat.reduceLeDiff, Int.reduceLE, Int.reduceLT, Int.reduceEq, Int.reduceToNat, Int.reduceAdd, Int.reduceSub, Int.reduceMul, Int.reduceNeg, reduceCtorEq, Option.bind_some, Option.map_some, List.length_cons, List.length_nil, vcM, List.getElem?_toArray, List.getElem?_cons_zero, List.getElem?_cons_succ, hw32, hw33, hlq, eq_self])
            exact go true
          · (refine W_at c4_ok ?_; refine ⟨_, rfl, ?_⟩; simp (disch := first | omega | assumption | rfl | (simp only [vcS] <;> omega) | fail) only [↓ptV_l, ↓vcA, vcB, ↓vcD, vcE, ↓reduceIte, Nat.reduceEqDiff, Nat.reduceAdd, Nat.reduceMul, Nat.reduceLeDiff, Int.reduceLE, Int.reduceLT, Int.reduceEq, Int.reduceToNat, Int.reduceAdd, Int.reduceSub, Int.reduceMul, Int.reduceNeg, reduceCtorEq, Option.bind_some, Option.map_some, List.length_cons, List.length_nil, vcM, List.getElem?_toArray, List.getElem?_cons_zero, List.getElem?_cons_succ, hw32, hw33, hlq, eq_self])
            exact go true
        · obtain ⟨e, rfl, ⟨h1, _⟩ | ⟨_, h1, rfl, hEb⟩ | ⟨_, h1, _⟩⟩ := hAp
          · omega
          · have hlq : ¬ ((n : Nat) : Int) ≤ 32 * (s : Int) - 256 := by omega
            first | (simp (disch := first | omega | assumption | rfl | (simp only [vcS] <;> omega) | fail) only [↓ptV_l, ↓vcA, vcB, ↓vcD, vcE, ↓reduceIte, Nat.reduceEqDiff, Nat.reduceAdd, Nat.reduceMul, Nat.reduceLeDiff, Int.reduceLE, Int.reduceLT, Int.reduceEq, Int.reduceToNat, Int.reduceAdd, Int.reduceSub, Int.reduceMul, Int.reduceNeg, reduceCtorEq, Option.bind_some, Option.map_some, List.length_cons, List.length_nil, vcM, List.getElem?_toArray, List.getElem?_cons_zero, List.getElem?_cons_succ]) | skip
            (refine W_at c4_ok ?_; refine ⟨_, rfl, ?_⟩; simp (disch := first | omega | assumption | rfl | (simp only [vcS] <;> omega) | fail) only [↓ptV_l, ↓vcA, vcB, ↓vcD, vcE, ↓reduceIte, Nat.reduceEqDiff, Nat.reduceAdd, Nat.reduceMul, Nat.reduceLeDiff, Int.reduceLE, Int.reduceLT, Int.reduceEq, Int.reduceToNat, Int.reduceAdd, Int.reduceSub, Int.reduceMul, Int.reduceNeg, reduceCtorEq, Option.bind_some, Option.map_some, List.length_cons, List.length_nil, vcM, List.getElem?_toArray, List.getElem?_cons_zero, List.getElem?_cons_succ, hw32, hw33, hlq, eq_self])
            (refine W_at c4_ok ?_; refine ⟨_, rfl, ?_⟩; simp (disch := first | omega | assumption | rfl | (simp only [vcS] <;> omega) | fail) only [↓ptV_l, ↓vcA, vcB, ↓vcD, vcE, ↓reduceIte, Nat.reduceEqDiff, Nat.reduceAdd, Nat.reduceMul, Nat.reduceLeDiff, Int.reduceLE, Int.reduceLT, Int.reduceEq, Int.reduceToNat, Int.reduceAdd, Int.reduceSub, Int.reduceMul, Int.reduceNeg, reduceCtorEq, Option.bind_some, Option.map_some, List.length_cons, List.length_nil, vcM, List.getElem?_toArray, List.getElem?_cons_zero, List.getElem?_cons_succ])
            (refine W_at c4_ok ?_; refine ⟨_, rfl, ?_⟩; simp (disch := first | omega | assumption | rfl | (simp only [vcS] <;> omega) | fail) only [↓ptV_l, ↓vcA, vcB, ↓vcD, vcE, ↓reduceIte, Nat.reduceEqDiff, Nat.reduceAdd, Nat.reduceMul, Nat.reduceLeDiff, Int.reduceLE, Int.reduceLT, Int.reduceEq, Int.reduceToNat, Int.reduceAdd, Int.reduceSub, Int.reduceMul, Int.reduceNeg, reduceCtorEq, Option.bind_some, Option.map_some, List.length_cons, List.length_nil, vcM, List.getElem?_toArray, List.getElem?_cons_zero, List.getElem?_cons_succ])
            (refine W_at c4_ok ?_; refine ⟨_, rfl, ?_⟩; simp (disch := first | omega | assumption | rfl | (simp only [vcS] <;> omega) | fail) only [↓ptV_l, ↓vcA, vcB, ↓vcD, vcE, ↓reduceIte, Nat.reduceEqDiff, Nat.reduceAdd, Nat.reduceMul, Nat.reduceLeDiff, Int.reduceLE, Int.reduceLT, Int.reduceEq, Int.reduceToNat, Int.reduceAdd, Int.reduceSub, Int.reduceMul, Int.reduceNeg, reduceCtorEq, Option.bind_some, Option.map_some, List.length_cons, List.length_nil, vcM, List.getElem?_toArray, List.getElem?_cons_zero, List.getElem?_cons_succ])
            exact rest wb sv rv qv sw rw J d _ (hSr.ext hEb) hG hl hn hsm.next ((hTr.mono fun x hx => hx.1).ext hEb) (hEb.at h7r fun h => h) (hEwr.ext hEb)
          · omega
      · (refine W_at c4_ok ?_; refine ⟨_, rfl, ?_⟩; simp (disch := first | omega | assumption | rfl | (simp only [vcS] <;> omega) | fail) only [↓ptV_l, ↓vcA, vcB, ↓vcD, vcE, ↓reduceIte, Nat.reduceEqDiff, Nat.reduceAdd, Nat.reduceMul, Nat.reduceLeDiff, Int.reduceLE, Int.reduceLT, Int.reduceEq, Int.reduceToNat, Int.reduceAdd, Int.reduceSub, Int.reduceMul, Int.reduceNeg, reduceCtorEq, Option.bind_some, Option.map_some, List.length_cons, List.length_nil, vcM, List.getElem?_toArray, List.getElem?_cons_zero, List.getElem?_cons_succ, h5])
        (refine W_at c4_ok ?_; refine ⟨_, rfl, ?_⟩; simp (disch := first | omega | assumption | rfl | (simp only [vcS] <;> omega) | fail) only [↓ptV_l, ↓vcA, vcB, ↓vcD, vcE, ↓reduceIte, Nat.reduceEqDiff, Nat.reduceAdd, Nat.reduceMul, Nat.reduceLeDiff, Int.reduceLE, Int.reduceLT, Int.reduceEq, Int.reduceToNat, Int.reduceAdd, Int.reduceSub, Int.reduceMul, Int.reduceNeg, reduceCtorEq, Option.bind_some, Option.map_some, List.length_cons, List.length_nil, vcM, List.getElem?_toArray, List.getElem?_cons_zero, List.getElem?_cons_succ])
        (refine W_at c4_ok ?_; refine ⟨_, rfl, ?_⟩; simp (disch := first | omega | assumption | rfl | (simp only [vcS] <;> omega) | fail) only [↓ptV_l, ↓vcA, vcB, ↓vcD, vcE, ↓reduceIte, Nat.reduceEqDiff, Nat.reduceAdd, Nat.reduceMul, Nat.reduceLeDiff, Int.reduceLE, Int.reduceLT, Int.reduceEq, Int.reduceToNat, Int.reduceAdd, Int.reduceSub, Int.reduceMul, Int.reduceNeg, reduceCtorEq, Option.bind_some, Option.map_some, List.length_cons, List.length_nil, vcM, List.getElem?_toArray, List.getElem?_cons_zero, List.getElem?_cons_succ])
        refine callV_ret (Append_ok wr jp p r sv rv qv J d _ b hSr.j hSr.d hG hxr hbb (by have := hsm.recs; omega)) ?_
        intro u wb hAp
        by_cases hfit : ((b.length : Nat) : Int) ≤ roomF d J
        · obtain ⟨rfl, d', hG', hl', hn', hT'⟩ := appR_quiet hl (by omega) hfit hAp
          obtain ⟨sv', rv', qv', hSt⟩ := JTo.step hSr hbase hT'
          have h7b := hSt.keep.at h7r (hSr.nb h7r (by decide) (by decide) (by decide) (by decide))
          have hEwb : Ext w wb := hEwr.trans hSt.keep fun i hi hg => by have := hSr.base i hg; omega
          have hlq : ((n : Nat) : Int) ≤ roomF d J := by omega
          have hw1 : IntKind.i64.wrap (roomF d J - (n : Nat)) = roomF d J - (n : Nat) := wrap_i64 (by omega) (by omega)
          have hw2 : IntKind.i64.wrap (roomF d J - (n : Nat) - 128) = roomF d J - (n : Nat) - 128 := wrap_i64 (by omega) (by omega)
          have hpd : (J.app b).pos = J.pos + 5 + b.length := rfl
          have hmain : roomF d J < 65535 → ¬ roomF d' (J.app b) < roomF d J - (n : Nat) - 128 := by
            unfold roomF; rw [hn', hn, hpd]; omega
          first | (simp (disch := first | omega | assumption | rfl | (simp only [vcS] <;> omega) | fail) only [↓ptV_l, ↓vcA, vcB, ↓vcD, vcE, ↓reduceIte, Nat.reduceEqDiff, Nat.reduceAdd, Nat.reduceMul, Nat.reduceLeDiff, Int.reduceLE, Int.reduceLT, Int.reduceEq, Int.reduceToNat, Int.reduceAdd, Int.reduceSub, Int.reduceMul, Int.reduceNeg, reduceCtorEq, Option.bind_some, Option.map_some, List.length_cons, List.length_nil, vcM, List.getElem?_toArray, List.getElem?_cons_zero, List.getElem?_cons_succ]) | skip
          (refine W_at c4_ok ?_; refine ⟨_, rfl, ?_⟩; simp (maxSteps := 4000000) (disch := first | omega | assumption | rfl | (simp only [vcS] <;> omega) | fail) only [↓vcL1, ptS2_eq, ↓vcA, vcB, ↓vcD, vcE, ↓reduceIte, Nat.reduceEqDiff, Nat.reduceAdd, Nat.reduceMul, Nat.reduceLeDiff, Int.reduceLE, Int.reduceLT, Int.reduceEq, Int.reduceToNat, Int.reduceAdd, Int.reduceSub, Int.reduceMul, Int.reduceNeg, reduceCtorEq, Option.bind_some, Option.map_some, List.length_cons, List.length_nil, vcM, List.getElem?_toArray, List.getElem?_cons_zero, List.getElem?_cons_succ, hlq, eq_self, beq_self_eq_true, Bool.not_true])
          refine callV_ret (Room_ok wb jp p r sv' rv' qv' (J.app b) d' hSt.sys.j hSt.sys.d hG'.inv.ok (by omega) (by omega)) ?_
          rintro _ wc ⟨rfl, hEc⟩
          have key : W Try.prog (Ret fun u w' => u = .bool true ∧ Ext w w') 4 26 [(0, .int .i64 (s : Nat)), (1, .slice (some ⟨gb, go, none⟩) nn c), (5, .pointer (some ⟨jp, 0, none⟩)), (6, .int .i64 0), (7, .pointer (some ⟨p7, 0, none⟩)), (8, .int .i64 (i : Nat)), (10, vb), (133, .bool false)] wc := by
            (refine W_at c4_ok ?_; refine ⟨_, rfl, ?_⟩; simp (disch := first | omega | assumption | rfl | (simp only [vcS] <;> omega) | fail) only [↓ptV_l, ↓vcA, vcB, ↓vcD, vcE, ↓reduceIte, Nat.reduceEqDiff, Nat.reduceAdd, Nat.reduceMul, Nat.reduceLeDiff, Int.reduceLE, Int.reduceLT, Int.reduceEq, Int.reduceToNat, Int.reduceAdd, Int.reduceSub, Int.reduceMul, Int.reduceNeg, reduceCtorEq, Option.bind_some, Option.map_some, List.length_cons, List.length_nil, vcM, List.getElem?_toArray, List.getElem?_cons_zero, List.getElem?_cons_succ])
            (refine W_at c4_ok ?_; refine ⟨_, rfl, ?_⟩; simp (disch := first | omega | assumption | rfl | (simp only [vcS] <;> omega) | fail) only [↓ptV_l, ↓vcA, vcB, ↓vcD, vcE, ↓reduceIte, Nat.reduceEqDiff, Nat.reduceAdd, Nat.reduceMul, Nat.reduceLeDiff, Int.reduceLE, Int.reduceLT, Int.reduceEq, Int.reduceToNat, Int.reduceAdd, Int.reduceSub, Int.reduceMul, Int.reduceNeg, reduceCtorEq, Option.bind_some, Option.map_some, List.length_cons, List.length_nil, vcM, List.getElem?_toArray, List.getElem?_cons_zero, List.getElem?_cons_succ, eq_self])
            (refine W_at c4_ok ?_; refine ⟨_, rfl, ?_⟩; simp (disch := first | omega | assumption | rfl | (simp only [vcS] <;> omega) | fail) only [↓ptV_l, ↓vcA, vcB, ↓vcD, vcE, ↓reduceIte, Nat.reduceEqDiff, Nat.reduceAdd, Nat.reduceMul, Nat.reduceLeDiff, Int.reduceLE, Int.reduceLT, Int.reduceEq, Int.reduceToNat, Int.reduceAdd, Int.reduceSub, Int.reduceMul, Int.reduceNeg, reduceCtorEq, Option.bind_some, Option.map_some, List.length_cons, List.length_nil, vcM, List.getElem?_toArray, List.getElem?_cons_zero, List.getElem?_cons_succ])
            have h7c := hEc.at h7b (fun h => h)
            have hTc := (hSr.tat hSt.keep hTr fun x hx => hx.1).ext hEc
            (refine W_at c4_ok ?_; refine ⟨_, rfl, ?_⟩; simp (disch := first | omega | assumption | rfl | (simp only [vcS] <;> omega) | fail) only [↓ptV_l, ↓vcA, vcB, ↓vcD, vcE, ↓reduceIte, Nat.reduceEqDiff, Nat.reduceAdd, Nat.reduceMul, Nat.reduceLeDiff, Int.reduceLE, Int.reduceLT, Int.reduceEq, Int.reduceToNat, Int.reduceAdd, Int.reduceSub, Int.reduceMul, Int.reduceNeg, reduceCtorEq, Option.bind_some, Option.map_some, List.length_cons, List.length_nil, vcM, List.getElem?_toArray, List.getElem?_cons_zero, List.getElem?_cons_succ, h7c, hok7, hx2, s2])
            refine callV_ret (rappend_ok wc _ sw rw vb J.state b J.recs hTc ((hvb wb hSt.keep).ext hEc) (by omega) (by have := hsm.recs; omega)) ?_
            rintro _ wd ⟨rw', rfl, hTd, hrwn, hEd⟩
            have h7d := hEd.at h7c (fun h => h)
            have s2' : (#[sw, rw'] : Array Value).size = 2 := rfl
            simp (disch := first | omega | assumption | rfl | (simp only [vcS] <;> omega) | fail) only [↓ptV_l, ↓vcA, vcB, ↓vcD, vcE, ↓reduceIte, Nat.reduceEqDiff, Nat.reduceAdd, Nat.reduceMul, Nat.reduceLeDiff, Int.reduceLE, Int.reduceLT, Int.reduceEq, Int.reduceToNat, Int.reduceAdd, Int.reduceSub, Int.reduceMul, Int.reduceNeg, reduceCtorEq, Option.bind_some, Option.map_some, List.length_cons, List.length_nil, vcM, List.getElem?_toArray, List.getElem?_cons_zero, List.getElem?_cons_succ, h7d, hok7, hx2, s2']
            refine ⟨⟨hTd.st.1.one, hTd.recs.one⟩, ?_⟩
            obtain ⟨k1, k2, k3, k4⟩ := hSt.after hSr (hEc.ext hEd) (hTd.mono fun x hx => hx.elim .inl fun h => .inr (Nat.le_trans hEc.size h)) h7d rfl
            have hEwe : Ext w _ := ((hEwb.ext hEc).ext hEd).trans k4 fun i hi e => by omega
            generalize World.putN _ _ _ _ = we at k1 k2 k3 k4 hEwe ⊢
            exact rest we sv' rv' qv' sw rw' (J.app b) d' _ k1 hG' hl' (hn'.trans hn) (hsm.app (by omega)) k2 k3 hEwe
          by_cases hlow : roomF d' (J.app b) < roomF d J - (n : Nat) - 128
          · have hr6 : ¬ roomF d J < 65535 := fun h => hmain h hlow
            simp (maxSteps := 4000000) (disch := first | omega | assumption | rfl | (simp only [vcS] <;> omega) | fail) only [↓vcL2, ptS1_eq, ↓vcA, vcB, ↓vcD, vcE, ↓reduceIte, Nat.reduceEqDiff, Nat.reduceAdd, Nat.reduceMul, Nat.reduceLeDiff, Int.reduceLE, Int.reduceLT, Int.reduceEq, Int.reduceToNat, Int.reduceAdd, Int.reduceSub, Int.reduceMul, Int.reduceNeg, reduceCtorEq, Option.bind_some, Option.map_some, List.length_cons, List.length_nil, vcM, List.getElem?_toArray, List.getElem?_cons_zero, List.getElem?_cons_succ, hlow, hr6, hw1, hw2]
            exact key
          · simp (maxSteps := 4000000) (disch := first | omega | assumption | rfl | (simp only [vcS] <;> omega) | fail) only [↓vcL2, ptS1_eq, ↓vcA, vcB, ↓vcD, vcE, ↓reduceIte, Nat.reduceEqDiff, Nat.reduceAdd, Nat.reduceMul, Nat.reduceLeDiff, Int.reduceLE, Int.reduceLT, Int.reduceEq, Int.reduceToNat, Int.reduceAdd, Int.reduceSub, Int.reduceMul, Int.reduceNeg, reduceCtorEq, Option.bind_some, Option.map_some, List.length_cons, List.length_nil, vcM, List.getElem?_toArray, List.getElem?_cons_zero, List.getElem?_cons_succ, hlow, hw1, hw2]
            exact key
        · obtain ⟨e, rfl, ⟨h1, _⟩ | ⟨_, h1, rfl, hEb⟩ | ⟨_, h1, _⟩⟩ := hAp
          · omega
          · have hlq : ¬ ((n : Nat) : Int) ≤ roomF d J := by omega
            first | (simp (disch := first | omega | assumption | rfl | (simp only [vcS] <;> omega) | fail) only [↓ptV_l, ↓vcA, vcB, ↓vcD, vcE, ↓reduceIte, Nat.reduceEqDiff, Nat.reduceAdd, Nat.reduceMul, Nat.reduceLeDiff, Int.reduceLE, Int.reduceLT, Int.reduceEq, Int.reduceToNat, Int.reduceAdd, Int.reduceSub, Int.reduceMul, Int.reduceNeg, reduceCtorEq, Option.bind_some, Option.map_some, List.length_cons, List.length_nil, vcM, List.getElem?_toArray, List.getElem?_cons_zero, List.getElem?_cons_succ]) | skip
            (refine W_at c4_ok ?_; refine ⟨_, rfl, ?_⟩; simp (maxSteps := 4000000) (disch := first | omega | assumption | rfl | (simp only [vcS] <;> omega) | fail) only [↓vcL1, ptS2_eq, ↓vcA, vcB, ↓vcD, vcE, ↓reduceIte, Nat.reduceEqDiff, Nat.reduceAdd, Nat.reduceMul, Nat.reduceLeDiff, Int.reduceLE, Int.reduceLT, Int.reduceEq, Int.reduceToNat, Int.reduceAdd, Int.reduceSub, Int.reduceMul, Int.reduceNeg, reduceCtorEq, Option.bind_some, Option.map_some, List.length_cons, List.length_nil, vcM, List.getElem?_toArray, List.getElem?_cons_zero, List.getElem?_cons_succ, hlq, eq_self, beq_self_eq_true, Bool.not_true])
            (refine W_at c4_ok ?_; refine ⟨_, rfl, ?_⟩; simp (disch := first | omega | assumption | rfl | (simp only [vcS] <;> omega) | fail) only [↓ptV_l, ↓vcA, vcB, ↓vcD, vcE, ↓reduceIte, Nat.reduceEqDiff, Nat.reduceAdd, Nat.reduceMul, Nat.reduceLeDiff, Int.reduceLE, Int.reduceLT, Int.reduceEq, Int.reduceToNat, Int.reduceAdd, Int.reduceSub, Int.reduceMul, Int.reduceNeg, reduceCtorEq, Option.bind_some, Option.map_some, List.length_cons, List.length_nil, vcM, List.getElem?_toArray, List.getElem?_cons_zero, List.getElem?_cons_succ])
            (refine W_at c4_ok ?_; refine ⟨_, rfl, ?_⟩; simp (disch := first | omega | assumption | rfl | (simp only [vcS] <;> omega) | fail) only [↓ptV_l, ↓vcA, vcB, ↓vcD, vcE, ↓reduceIte, Nat.reduceEqDiff, Nat.reduceAdd, Nat.reduceMul, Nat.reduceLeDiff, Int.reduceLE, Int.reduceLT, Int.reduceEq, Int.reduceToNat, Int.reduceAdd, Int.reduceSub, Int.reduceMul, Int.reduceNeg, reduceCtorEq, Option.bind_some, Option.map_some, List.length_cons, List.length_nil, vcM, List.getElem?_toArray, List.getElem?_cons_zero, List.getElem?_cons_succ])
            (refine W_at c4_ok ?_; refine ⟨_, rfl, ?_⟩; simp (disch := first | omega | assumption | rfl | (simp only [vcS] <;> omega) | fail) only [↓ptV_l, ↓vcA, vcB, ↓vcD, vcE, ↓reduceIte, Nat.reduceEqDiff, Nat.reduceAdd, Nat.reduceMul, Nat.reduceLeDiff, Int.reduceLE, Int.reduceLT, Int.reduceEq, Int.reduceToNat, Int.reduceAdd, Int.reduceSub, Int.reduceMul, Int.reduceNeg, reduceCtorEq, Option.bind_some, Option.map_some, List.length_cons, List.length_nil, vcM, List.getElem?_toArray, List.getElem?_cons_zero, List.getElem?_cons_succ])
            exact rest wb sv rv qv sw rw J d _ (hSr.ext hEb) hG hl hn hsm.next ((hTr.mono fun x hx => hx.1).ext hEb) (hEb.at h7r fun h => h) (hEwr.ext hEb)
          · omega
  (refine W_at c4_ok ?_; refine ⟨_, rfl, ?_⟩; simp (disch := first | omega | assumption | rfl | (simp only [vcS] <;> omega) | fail) only [↓ptV_l, ↓vcA, vcB, ↓vcD, vcE, ↓reduceIte, Nat.reduceEqDiff, Nat.reduceAdd, Nat.reduceMul, Nat.reduceLeDiff, Int.reduceLE, Int.reduceLT, Int.reduceEq, Int.reduceToNat, Int.reduceAdd, Int.reduceSub, Int.reduceMul, Int.reduceNeg, reduceCtorEq, Option.bind_some, Option.map_some, List.length_cons, List.length_nil, vcM, List.getElem?_toArray, List.getElem?_cons_zero, List.getElem?_cons_succ])
  exact L 30 0 w5 _ _ _ _ _ J0 d0 (by omega) hS5 hG0 hl0 hn0 ⟨by simp [J0], by simp [J0], by simp [J0], fun b hb => by cases hb⟩ (TAt.nil _ _) hp7 hEE5
end Go.Proofs
