/- A journal's 'Open'. -/
import Derived.Test.YtfackfekmadjbaaJA
set_option linter.unusedSimpArgs false
set_option linter.unusedVariables false
set_option linter.constructorNameAsVariable false
namespace Go.Proofs
open Go.Vc
set_option maxRecDepth 10000

def areaF (d : DS) (h : Int) : Nat → List Int
  | 0 => []
  | k + 1 => areaF d h k ++ d.safe ((baseN d.n h + k : Nat) : Int)
theorem areaF_len {d : DS} (hk : ∀ i, secOK (d.safe i)) (h : Int) : ∀ k, (areaF d h k).length = 64 * k
  | 0 => rfl
  | k + 1 => by rw [areaF, List.length_append, areaF_len hk h k, (hk _).1]; omega
theorem areaF_byt {d : DS} (hk : ∀ i, secOK (d.safe i)) (h : Int) : ∀ k, byt (areaF d h k)
  | 0 => byt_nil
  | k + 1 => byt_app (areaF_byt hk h k) (hk _).2
theorem areaF_at {d : DS} (hk : ∀ i, secOK (d.safe i)) (h : Int) : ∀ k o, o < 64 * k → (areaF d h k)[o]? = byteD d.safe (baseN d.n h + o / 64) (o % 64)
  | 0, o, ho => by omega
  | k + 1, o, ho => by
    rw [areaF]
    by_cases h1 : o < 64 * k
    · rw [List.getElem?_append_left (by rw [areaF_len hk]; exact h1), areaF_at hk h k o h1]
    · rw [List.getElem?_append_right (by rw [areaF_len hk]; omega), areaF_len hk]
      unfold byteD
      have e1 : o / 64 = k := by omega
      have e2 : o - 64 * k = o % 64 := by omega
      rw [e1, e2]
theorem area_form {d : DS} {J : JS} (h : JInv d J) : ∃ rest, areaF d J.head (secs d.n) = layF (allR J) ++ 0 :: rest := by
  have hlen := areaF_len h.ok.safe J.head (secs d.n)
  have hp := h.pos
  have hr := h.room
  have e : (areaF d J.head (secs d.n)).take (layF (allR J) ++ [0]).length = layF (allR J) ++ [0] := by
    refine List.ext_getElem? fun o => ?_
    by_cases ho : o < (layF (allR J) ++ [0]).length
    · rw [List.getElem?_take_of_lt ho]
      have hl : (layF (allR J) ++ [0]).length = J.pos + 1 := by rw [List.length_append, ← hp]; rfl
      rw [areaF_at h.ok.safe _ _ _ (by omega)]
      exact h.laid o ho
    · rw [List.getElem?_eq_none (by rw [List.length_take]; omega), List.getElem?_eq_none (by omega)]
  refine ⟨(areaF d J.head (secs d.n)).drop (layF (allR J) ++ [0]).length, ?_⟩
  conv => lhs; rw [← List.take_append_drop (layF (allR J) ++ [0]).length (areaF d J.head (secs d.n)), e]
  simp
set_option maxHeartbeats 1600000 in
theorem open_ok' (w : World) (p r : Nat) (qv : Value) (d : DS) (J : JS) (hD : DAt w p r qv d) (hI : JInv d J) (hq : d.queue = []) (hde : d.dead = false) :
    Calls Try.prog 9 #[.pointer (some ⟨p, 0, none⟩)] w (Ret fun u w' => OpenR w w' p J u) := by
  refine calls_of_cfg c9_ok (Nat.le_of_ble_eq_true rfl) ?_
  simp only [argE_nil, argE_cons, Nat.reduceAdd, Nat.zero_add]
  have hn := hI.n
  have hk := hI.ok
  have hs := secs_b hk.n
  have hbl := base_lt (n := d.n) J.head (by omega)
  have hbb := base_b (h := J.head) hk.n
  have hhd := hI.head
  have hnot : ¬ ((d.n : Nat) : Int) < 16 := by omega
  obtain ⟨hre, hrb⟩ := read_q hq hde (thereB_iff.2 (by omega) : thereB d.n 0 = true)
  (refine W_at c9_ok ?_; refine ⟨_, rfl, ?_⟩; simp (disch := first | omega | assumption | rfl | (simp only [vcS] <;> omega) | fail) only [↓ptV_l, ↓vcA, vcB, ↓vcD, vcE, ↓reduceIte, Nat.reduceEqDiff, Nat.reduceAdd, Nat.reduceMul, Nat.reduceLeDiff, Int.reduceLE, Int.reduceLT, Int.reduceEq, Int.reduceToNat, Int.reduceAdd, Int.reduceSub, Int.reduceMul, Int.reduceNeg, reduceCtorEq, Option.bind_some, Option.map_some, List.length_cons, List.length_nil, vcM, List.getElem?_toArray, List.getElem?_cons_zero, List.getElem?_cons_succ])
  (refine W_at c9_ok ?_; refine ⟨_, rfl, ?_⟩; simp (disch := first | omega | assumption | rfl | (simp only [vcS] <;> omega) | fail) only [↓ptV_l, ↓vcA, vcB, ↓vcD, vcE, ↓reduceIte, Nat.reduceEqDiff, Nat.reduceAdd, Nat.reduceMul, Nat.reduceLeDiff, Int.reduceLE, Int.reduceLT, Int.reduceEq, Int.reduceToNat, Int.reduceAdd, Int.reduceSub, Int.reduceMul, Int.reduceNeg, reduceCtorEq, Option.bind_some, Option.map_some, List.length_cons, List.length_nil, vcM, List.getElem?_toArray, List.getElem?_cons_zero, List.getElem?_cons_succ])
  refine callV_ret (sectors_ok w p r qv d hD) ?_
  rintro _ w1 ⟨rfl, hw⟩
  obtain rfl : w = w1 := hw.symm
  simp (disch := first | omega | assumption | rfl | (simp only [vcS] <;> omega) | fail) only [↓ptV_l, ↓vcA, vcB, ↓vcD, vcE, ↓reduceIte, Nat.reduceEqDiff, Nat.reduceAdd, Nat.reduceMul, Nat.reduceLeDiff, Int.reduceLE, Int.reduceLT, Int.reduceEq, Int.reduceToNat, Int.reduceAdd, Int.reduceSub, Int.reduceMul, Int.reduceNeg, reduceCtorEq, Option.bind_some, Option.map_some, List.length_cons, List.length_nil, vcM, List.getElem?_toArray, List.getElem?_cons_zero, List.getElem?_cons_succ, hnot]
  (refine W_at c9_ok ?_; refine ⟨_, rfl, ?_⟩; simp (disch := first | omega | assumption | rfl | (simp only [vcS] <;> omega) | fail) only [↓ptV_l, ↓vcA, vcB, ↓vcD, vcE, ↓reduceIte, Nat.reduceEqDiff, Nat.reduceAdd, Nat.reduceMul, Nat.reduceLeDiff, Int.reduceLE, Int.reduceLT, Int.reduceEq, Int.reduceToNat, Int.reduceAdd, Int.reduceSub, Int.reduceMul, Int.reduceNeg, reduceCtorEq, Option.bind_some, Option.map_some, List.length_cons, List.length_nil, vcM, List.getElem?_toArray, List.getElem?_cons_zero, List.getElem?_cons_succ])
  (refine W_at c9_ok ?_; refine ⟨_, rfl, ?_⟩; simp (disch := first | omega | assumption | rfl | (simp only [vcS] <;> omega) | fail) only [↓ptV_l, ↓vcA, vcB, ↓vcD, vcE, ↓reduceIte, Nat.reduceEqDiff, Nat.reduceAdd, Nat.reduceMul, Nat.reduceLeDiff, Int.reduceLE, Int.reduceLT, Int.reduceEq, Int.reduceToNat, Int.reduceAdd, Int.reduceSub, Int.reduceMul, Int.reduceNeg, reduceCtorEq, Option.bind_some, Option.map_some, List.length_cons, List.length_nil, vcM, List.getElem?_toArray, List.getElem?_cons_zero, List.getElem?_cons_succ])
  refine callV_ret (read_ok w p r qv d 0 hD hk) ?_
  rintro _ w1 ⟨v, rfl, hN⟩
  rw [hre]
  rw [hrb] at hN
  first | (simp (disch := first | omega | assumption | rfl | (simp only [vcS] <;> omega) | fail) only [↓ptV_l, ↓vcA, vcB, ↓vcD, vcE, ↓reduceIte, Nat.reduceEqDiff, Nat.reduceAdd, Nat.reduceMul, Nat.reduceLeDiff, Int.reduceLE, Int.reduceLT, Int.reduceEq, Int.reduceToNat, Int.reduceAdd, Int.reduceSub, Int.reduceMul, Int.reduceNeg, reduceCtorEq, Option.bind_some, Option.map_some, List.length_cons, List.length_nil, vcM, List.getElem?_toArray, List.getElem?_cons_zero, List.getElem?_cons_succ]) | skip
  (refine W_at c9_ok ?_; refine ⟨_, rfl, ?_⟩; simp (disch := first | omega | assumption | rfl | (simp only [vcS] <;> omega) | fail) only [↓ptV_l, ↓vcA, vcB, ↓vcD, vcE, ↓reduceIte, Nat.reduceEqDiff, Nat.reduceAdd, Nat.reduceMul, Nat.reduceLeDiff, Int.reduceLE, Int.reduceLT, Int.reduceEq, Int.reduceToNat, Int.reduceAdd, Int.reduceSub, Int.reduceMul, Int.reduceNeg, reduceCtorEq, Option.bind_some, Option.map_some, List.length_cons, List.length_nil, vcM, List.getElem?_toArray, List.getElem?_cons_zero, List.getElem?_cons_succ])
  (refine W_at c9_ok ?_; refine ⟨_, rfl, ?_⟩; simp (disch := first | omega | assumption | rfl | (simp only [vcS] <;> omega) | fail) only [↓ptV_l, ↓vcA, vcB, ↓vcD, vcE, ↓reduceIte, Nat.reduceEqDiff, Nat.reduceAdd, Nat.reduceMul, Nat.reduceLeDiff, Int.reduceLE, Int.reduceLT, Int.reduceEq, Int.reduceToNat, Int.reduceAdd, Int.reduceSub, Int.reduceMul, Int.reduceNeg, reduceCtorEq, Option.bind_some, Option.map_some, List.length_cons, List.length_nil, vcM, List.getElem?_toArray, List.getElem?_cons_zero, List.getElem?_cons_succ])
  have hsl := (hk.safe 0).1
  have hb0 := hI.h0
  have hb1 : (d.safe 0)[0]? = some J.head := hb0
  have h64 : 0 < (d.safe 0).length := by omega
  obtain ⟨b, o, c, hv, hcell⟩ := hN.own.rd.at (i := 0) h64
  rw [List.getElem?_eq_getElem h64] at hb1
  rw [Option.some.inj hb1, Nat.add_zero] at hcell
  rw [hsl] at hv
  subst hv
  have hone := hN.own.rd.one
  (refine W_at c9_ok ?_; refine ⟨_, rfl, ?_⟩; simp (disch := first | omega | assumption | rfl | (simp only [vcS] <;> omega) | fail) only [↓ptV_l, ↓vcA, vcB, ↓vcD, vcE, ↓reduceIte, Nat.reduceEqDiff, Nat.reduceAdd, Nat.reduceMul, Nat.reduceLeDiff, Int.reduceLE, Int.reduceLT, Int.reduceEq, Int.reduceToNat, Int.reduceAdd, Int.reduceSub, Int.reduceMul, Int.reduceNeg, reduceCtorEq, Option.bind_some, Option.map_some, List.length_cons, List.length_nil, vcM, List.getElem?_toArray, List.getElem?_cons_zero, List.getElem?_cons_succ, hcell])
  have hO : (w1.alloc (.cells (#[Value.pointer (some ⟨p, 0, none⟩)] ++ (#[Value.int .u8 J.head] ++ zc [(1, .int .i64 0), (2, .slice none 0 0)])) 62)).heap[w1.heap.size]? = some (.cells #[.pointer (some ⟨p, 0, none⟩), .int .u8 J.head, .int .i64 0, .slice none 0 0, .slice none 0 0] 62 (0, 0)) := by
    have e : (#[Value.pointer (some ⟨p, 0, none⟩)] ++ (#[Value.int .u8 J.head] ++ zc [(1, .int .i64 0), (2, .slice none 0 0)])) = #[.pointer (some ⟨p, 0, none⟩), .int .u8 J.head, .int .i64 0, .slice none 0 0, .slice none 0 0] := by
      simp [zc, runs]
    rw [e]
    exact heap_new _ _ _ rfl
  have hE2 : Ext w (w1.alloc (.cells (#[Value.pointer (some ⟨p, 0, none⟩)] ++ (#[Value.int .u8 J.head] ++ zc [(1, .int .i64 0), (2, .slice none 0 0)])) 62)) := hN.ext.alloc _
  have hjp : w.heap.size ≤ w1.heap.size := hN.ext.size
  generalize World.alloc _ _ = w2 at hO hE2 ⊢
  generalize w1.heap.size = jp at hO hjp ⊢
  have hj2 : JAt w2 jp p (.slice none 0 0) (.slice none 0 0) ⟨J.head, 0, [], []⟩ := ⟨hO, ByT.nil _, RowsT.nil _⟩
  (refine W_at c9_ok ?_; refine ⟨_, rfl, ?_⟩; simp (disch := first | omega | assumption | rfl | (simp only [vcS] <;> omega) | fail) only [↓ptV_l, ↓vcA, vcB, ↓vcD, vcE, ↓reduceIte, Nat.reduceEqDiff, Nat.reduceAdd, Nat.reduceMul, Nat.reduceLeDiff, Int.reduceLE, Int.reduceLT, Int.reduceEq, Int.reduceToNat, Int.reduceAdd, Int.reduceSub, Int.reduceMul, Int.reduceNeg, reduceCtorEq, Option.bind_some, Option.map_some, List.length_cons, List.length_nil, vcM, List.getElem?_toArray, List.getElem?_cons_zero, List.getElem?_cons_succ])
  (refine W_at c9_ok ?_; refine ⟨_, rfl, ?_⟩; simp (disch := first | omega | assumption | rfl | (simp only [vcS] <;> omega) | fail) only [↓ptV_l, ↓vcA, vcB, ↓vcD, vcE, ↓reduceIte, Nat.reduceEqDiff, Nat.reduceAdd, Nat.reduceMul, Nat.reduceLeDiff, Int.reduceLE, Int.reduceLT, Int.reduceEq, Int.reduceToNat, Int.reduceAdd, Int.reduceSub, Int.reduceMul, Int.reduceNeg, reduceCtorEq, Option.bind_some, Option.map_some, List.length_cons, List.length_nil, vcM, List.getElem?_toArray, List.getElem?_cons_zero, List.getElem?_cons_succ])
  refine callV_ret (sectorsJ_ok w2 jp p r _ _ qv _ d hj2 (hD.ext hE2) hk hn) ?_
  rintro _ w3 ⟨rfl, hw⟩
  obtain rfl : w2 = w3 := hw.symm
  first | (simp (disch := first | omega | assumption | rfl | (simp only [vcS] <;> omega) | fail) only [↓ptV_l, ↓vcA, vcB, ↓vcD, vcE, ↓reduceIte, Nat.reduceEqDiff, Nat.reduceAdd, Nat.reduceMul, Nat.reduceLeDiff, Int.reduceLE, Int.reduceLT, Int.reduceEq, Int.reduceToNat, Int.reduceAdd, Int.reduceSub, Int.reduceMul, Int.reduceNeg, reduceCtorEq, Option.bind_some, Option.map_some, List.length_cons, List.length_nil, vcM, List.getElem?_toArray, List.getElem?_cons_zero, List.getElem?_cons_succ]) | skip
  have hin3 : ∀ w3 : World, JAt w3 jp p (.slice none 0 0) (.slice none 0 0) ⟨J.head, 0, [], []⟩ → JIn (fun g => w.heap.size ≤ g) w3 jp := fun w3 h3 => ⟨_, _, _, _, _, h3.obj, fun g hg => (by cases hg), [], OwnO.nil _ _ _ _, fun v hv => by cases hv⟩
  have fin : ∀ (w3 : World) (va : Value), New w w3 va (areaF d J.head (secs d.n)) → JAt w3 jp p (.slice none 0 0) (.slice none 0 0) ⟨J.head, 0, [], []⟩ → 
      W Try.prog (Ret fun u w' => OpenR w w' p J u) 9 23 [(0, .pointer (some ⟨p, 0, none⟩)), (6, .pointer (some ⟨jp, 0, none⟩)), (7, va), (31, .int .i64 (secs d.n : Nat)), (32, .int .i64 (secs d.n : Nat))] w3 := by
    intro w3 va hN3 hj3
    obtain ⟨rest, hA⟩ := area_form hI
    have hAl := areaF_len hk.safe J.head (secs d.n)
    have hAb := areaF_byt hk.safe J.head (secs d.n)
    generalize areaF d J.head (secs d.n) = A at hN3 hA hAl hAb
    have hno : ¬ ((secs d.n : Nat) : Int) < ((secs d.n : Nat) : Int) := by omega
    (refine W_at c9_ok ?_; refine ⟨_, rfl, ?_⟩; simp (disch := first | omega | assumption | rfl | (simp only [vcS] <;> omega) | fail) only [↓ptV_l, ↓vcA, vcB, ↓vcD, vcE, ↓reduceIte, Nat.reduceEqDiff, Nat.reduceAdd, Nat.reduceMul, Nat.reduceLeDiff, Int.reduceLE, Int.reduceLT, Int.reduceEq, Int.reduceToNat, Int.reduceAdd, Int.reduceSub, Int.reduceMul, Int.reduceNeg, reduceCtorEq, Option.bind_some, Option.map_some, List.length_cons, List.length_nil, vcM, List.getElem?_toArray, List.getElem?_cons_zero, List.getElem?_cons_succ, hno])
    (refine W_at c9_ok ?_; refine ⟨_, rfl, ?_⟩; simp (disch := first | omega | assumption | rfl | (simp only [vcS] <;> omega) | fail) only [↓ptV_l, ↓vcA, vcB, ↓vcD, vcE, ↓reduceIte, Nat.reduceEqDiff, Nat.reduceAdd, Nat.reduceMul, Nat.reduceLeDiff, Int.reduceLE, Int.reduceLT, Int.reduceEq, Int.reduceToNat, Int.reduceAdd, Int.reduceSub, Int.reduceMul, Int.reduceNeg, reduceCtorEq, Option.bind_some, Option.map_some, List.length_cons, List.length_nil, vcM, List.getElem?_toArray, List.getElem?_cons_zero, List.getElem?_cons_succ])
    (refine W_at c9_ok ?_; refine ⟨_, rfl, ?_⟩; simp (disch := first | omega | assumption | rfl | (simp only [vcS] <;> omega) | fail) only [↓ptV_l, ↓vcA, vcB, ↓vcD, vcE, ↓reduceIte, Nat.reduceEqDiff, Nat.reduceAdd, Nat.reduceMul, Nat.reduceLeDiff, Int.reduceLE, Int.reduceLT, Int.reduceEq, Int.reduceToNat, Int.reduceAdd, Int.reduceSub, Int.reduceMul, Int.reduceNeg, reduceCtorEq, Option.bind_some, Option.map_some, List.length_cons, List.length_nil, vcM, List.getElem?_toArray, List.getElem?_cons_zero, List.getElem?_cons_succ])
    by_cases h0 : 0 < (allR J).length
    · have hd : A.drop 0 = frame1 (allR J)[0] ++ (layF ((allR J).drop 1) ++ 0 :: rest) := by
        rw [List.drop_zero, hA]
        have e : allR J = (allR J)[0] :: (allR J).drop 1 := by
          have := List.drop_eq_getElem_cons h0
          rwa [List.drop_zero] at this
        conv => lhs; rw [e]
        unfold layF
        rw [List.flatMap_cons, List.append_assoc]
      refine callV_ret (next_yes w3 va A _ _ 0 hN3.own.rd hAb (Nat.zero_le _) (by omega) hd (hI.small _ (List.getElem_mem h0))) ?_
      rintro _ w10 ⟨vb', rfl, hN4⟩
      simp (disch := first | omega | assumption | rfl | (simp only [vcS] <;> omega) | fail) only [↓ptV_l, ↓vcA, vcB, ↓vcD, vcE, ↓reduceIte, Nat.reduceEqDiff, Nat.reduceAdd, Nat.reduceMul, Nat.reduceLeDiff, Int.reduceLE, Int.reduceLT, Int.reduceEq, Int.reduceToNat, Int.reduceAdd, Int.reduceSub, Int.reduceMul, Int.reduceNeg, reduceCtorEq, Option.bind_some, Option.map_some, List.length_cons, List.length_nil, vcM, List.getElem?_toArray, List.getElem?_cons_zero, List.getElem?_cons_succ]
      exact open_recs w p jp va J A rest hA hAb (by omega) hjp hI.st hI.pos (by omega) hI.small _ 0 w10 vb' _ true (by rw [Nat.zero_add]) (hN3.ext.ext hN4.ext) ((ByT.own hN3.own).ext hN4.ext) (hj3.ext hN4.ext) (fun g hg => by cases hg) ((hin3 w3 hj3).ext hN4.ext) (by rw [decide_eq_true h0]) fun _ => ⟨ByT.own hN4.own, fun g hg => Nat.le_trans hN3.ext.size (hN4.new g hg)⟩
    · have hz : allR J = [] := List.eq_nil_of_length_eq_zero (by omega)
      have hd : A.drop 0 = 0 :: rest := by rw [List.drop_zero, hA, hz]; rfl
      refine callV_ret (next_no w3 va A _ 0 hN3.own.rd hAb (Nat.zero_le _) (by omega) hd) ?_
      rintro _ w10 ⟨rfl, hN4⟩
      simp (disch := first | omega | assumption | rfl | (simp only [vcS] <;> omega) | fail) only [↓ptV_l, ↓vcA, vcB, ↓vcD, vcE, ↓reduceIte, Nat.reduceEqDiff, Nat.reduceAdd, Nat.reduceMul, Nat.reduceLeDiff, Int.reduceLE, Int.reduceLT, Int.reduceEq, Int.reduceToNat, Int.reduceAdd, Int.reduceSub, Int.reduceMul, Int.reduceNeg, reduceCtorEq, Option.bind_some, Option.map_some, List.length_cons, List.length_nil, vcM, List.getElem?_toArray, List.getElem?_cons_zero, List.getElem?_cons_succ]
      refine open_recs w p jp va J A rest hA hAb (by omega) hjp hI.st hI.pos (by omega) hI.small _ 0 w10 _ (.slice none 0 0) false (by rw [Nat.zero_add]) (hN3.ext.ext hN4) ((ByT.own hN3.own).ext hN4) ?_ (fun g hg => by cases hg) ((hin3 w3 hj3).ext hN4) (by rw [decide_eq_false h0]) fun h => absurd h h0
      have := hj3.ext hN4
      exact this
  have L : ∀ (k i : Nat) (w3 : World) (va : Value), i + k = secs d.n → New w w3 va (areaF d J.head i) → JAt w3 jp p (.slice none 0 0) (.slice none 0 0) ⟨J.head, 0, [], []⟩ → 
      W Try.prog (Ret fun u w' => OpenR w w' p J u) 9 23 [(0, .pointer (some ⟨p, 0, none⟩)), (6, .pointer (some ⟨jp, 0, none⟩)), (7, va), (31, .int .i64 (secs d.n : Nat)), (32, .int .i64 (i : Nat))] w3 := by
    intro k
    induction k with
    | zero =>
      intro i w3 va hi hN3 hj3
      obtain rfl : i = secs d.n := by omega
      exact fin w3 va hN3 hj3
    | succ k ih =>
      intro i w3 va hi hN3 hj3
      have hlt : ((i : Nat) : Int) < ((secs d.n : Nat) : Int) := by omega
      have ho3 := hj3.obj
      have hD3 := hD.ext hN3.ext
      have hth : thereB d.n ((baseN d.n J.head + i : Nat) : Int) = true := thereB_iff.2 (by omega)
      obtain ⟨hre, hrb⟩ := read_q hq hde hth
      have hadd : IntKind.i64.wrap (((baseN d.n J.head : Nat) : Int) + ((i : Nat) : Int)) = ((baseN d.n J.head + i : Nat) : Int) := by rw [wrap_i64 (by omega) (by omega)]; omega
      have hws : IntKind.i64.wrap (((i : Nat) : Int) + 1) = ((i + 1 : Nat) : Int) := wrap_i64 (by omega) (by omega)
      (refine W_at c9_ok ?_; refine ⟨_, rfl, ?_⟩; simp (disch := first | omega | assumption | rfl | (simp only [vcS] <;> omega) | fail) only [↓ptV_l, ↓vcA, vcB, ↓vcD, vcE, ↓reduceIte, Nat.reduceEqDiff, Nat.reduceAdd, Nat.reduceMul, Nat.reduceLeDiff, Int.reduceLE, Int.reduceLT, Int.reduceEq, Int.reduceToNat, Int.reduceAdd, Int.reduceSub, Int.reduceMul, Int.reduceNeg, reduceCtorEq, Option.bind_some, Option.map_some, List.length_cons, List.length_nil, vcM, List.getElem?_toArray, List.getElem?_cons_zero, List.getElem?_cons_succ, hlt])
      (refine W_at c9_ok ?_; refine ⟨_, rfl, ?_⟩; simp (disch := first | omega | assumption | rfl | (simp only [vcS] <;> omega) | fail) only [↓ptV_l, ↓vcA, vcB, ↓vcD, vcE, ↓reduceIte, Nat.reduceEqDiff, Nat.reduceAdd, Nat.reduceMul, Nat.reduceLeDiff, Int.reduceLE, Int.reduceLT, Int.reduceEq, Int.reduceToNat, Int.reduceAdd, Int.reduceSub, Int.reduceMul, Int.reduceNeg, reduceCtorEq, Option.bind_some, Option.map_some, List.length_cons, List.length_nil, vcM, List.getElem?_toArray, List.getElem?_cons_zero, List.getElem?_cons_succ])
      (refine W_at c9_ok ?_; refine ⟨_, rfl, ?_⟩; simp (disch := first | omega | assumption | rfl | (simp only [vcS] <;> omega) | fail) only [↓ptV_l, ↓vcA, vcB, ↓vcD, vcE, ↓reduceIte, Nat.reduceEqDiff, Nat.reduceAdd, Nat.reduceMul, Nat.reduceLeDiff, Int.reduceLE, Int.reduceLT, Int.reduceEq, Int.reduceToNat, Int.reduceAdd, Int.reduceSub, Int.reduceMul, Int.reduceNeg, reduceCtorEq, Option.bind_some, Option.map_some, List.length_cons, List.length_nil, vcM, List.getElem?_toArray, List.getElem?_cons_zero, List.getElem?_cons_succ])
      (refine W_at c9_ok ?_; refine ⟨_, rfl, ?_⟩; simp (disch := first | omega | assumption | rfl | (simp only [vcS] <;> omega) | fail) only [↓ptV_l, ↓vcA, vcB, ↓vcD, vcE, ↓reduceIte, Nat.reduceEqDiff, Nat.reduceAdd, Nat.reduceMul, Nat.reduceLeDiff, Int.reduceLE, Int.reduceLT, Int.reduceEq, Int.reduceToNat, Int.reduceAdd, Int.reduceSub, Int.reduceMul, Int.reduceNeg, reduceCtorEq, Option.bind_some, Option.map_some, List.length_cons, List.length_nil, vcM, List.getElem?_toArray, List.getElem?_cons_zero, List.getElem?_cons_succ, ho3])
      refine callV_ret (baseJ_ok w3 jp p r _ _ qv _ d J.head hj3 hD3 hk hn (by omega)) ?_
      rintro _ w4 ⟨rfl, hw⟩
      obtain rfl : w3 = w4 := hw.symm
      simp (disch := first | omega | assumption | rfl | (simp only [vcS] <;> omega) | fail) only [↓ptV_l, ↓vcA, vcB, ↓vcD, vcE, ↓reduceIte, Nat.reduceEqDiff, Nat.reduceAdd, Nat.reduceMul, Nat.reduceLeDiff, Int.reduceLE, Int.reduceLT, Int.reduceEq, Int.reduceToNat, Int.reduceAdd, Int.reduceSub, Int.reduceMul, Int.reduceNeg, reduceCtorEq, Option.bind_some, Option.map_some, List.length_cons, List.length_nil, vcM, List.getElem?_toArray, List.getElem?_cons_zero, List.getElem?_cons_succ, hadd]
      refine callV_ret (read_ok w3 p r qv d _ hD3 hk) ?_
      rintro _ w4 ⟨vb, rfl, hN4⟩
      rw [hre]
      rw [hrb] at hN4
      first | (simp (disch := first | omega | assumption | rfl | (simp only [vcS] <;> omega) | fail) only [↓ptV_l, ↓vcA, vcB, ↓vcD, vcE, ↓reduceIte, Nat.reduceEqDiff, Nat.reduceAdd, Nat.reduceMul, Nat.reduceLeDiff, Int.reduceLE, Int.reduceLT, Int.reduceEq, Int.reduceToNat, Int.reduceAdd, Int.reduceSub, Int.reduceMul, Int.reduceNeg, reduceCtorEq, Option.bind_some, Option.map_some, List.length_cons, List.length_nil, vcM, List.getElem?_toArray, List.getElem?_cons_zero, List.getElem?_cons_succ]) | skip
      (refine W_at c9_ok ?_; refine ⟨_, rfl, ?_⟩; simp (disch := first | omega | assumption | rfl | (simp only [vcS] <;> omega) | fail) only [↓ptV_l, ↓vcA, vcB, ↓vcD, vcE, ↓reduceIte, Nat.reduceEqDiff, Nat.reduceAdd, Nat.reduceMul, Nat.reduceLeDiff, Int.reduceLE, Int.reduceLT, Int.reduceEq, Int.reduceToNat, Int.reduceAdd, Int.reduceSub, Int.reduceMul, Int.reduceNeg, reduceCtorEq, Option.bind_some, Option.map_some, List.length_cons, List.length_nil, vcM, List.getElem?_toArray, List.getElem?_cons_zero, List.getElem?_cons_succ])
      (refine W_at c9_ok ?_; refine ⟨_, rfl, ?_⟩; simp (disch := first | omega | assumption | rfl | (simp only [vcS] <;> omega) | fail) only [↓ptV_l, ↓vcA, vcB, ↓vcD, vcE, ↓reduceIte, Nat.reduceEqDiff, Nat.reduceAdd, Nat.reduceMul, Nat.reduceLeDiff, Int.reduceLE, Int.reduceLT, Int.reduceEq, Int.reduceToNat, Int.reduceAdd, Int.reduceSub, Int.reduceMul, Int.reduceNeg, reduceCtorEq, Option.bind_some, Option.map_some, List.length_cons, List.length_nil, vcM, List.getElem?_toArray, List.getElem?_cons_zero, List.getElem?_cons_succ])
      have hNa := hN3.keep hN4.ext
      (refine W_at c9_ok ?_; refine ⟨_, rfl, ?_⟩; simp (disch := first | omega | assumption | rfl | (simp only [vcS] <;> omega) | fail) only [↓ptV_l, ↓vcA, vcB, ↓vcD, vcE, ↓reduceIte, Nat.reduceEqDiff, Nat.reduceAdd, Nat.reduceMul, Nat.reduceLeDiff, Int.reduceLE, Int.reduceLT, Int.reduceEq, Int.reduceToNat, Int.reduceAdd, Int.reduceSub, Int.reduceMul, Int.reduceNeg, reduceCtorEq, Option.bind_some, Option.map_some, List.length_cons, List.length_nil, vcM, List.getElem?_toArray, List.getElem?_cons_zero, List.getElem?_cons_succ])
      refine appN hNa hN4.own.rd (by rw [areaF_len hk.safe, (hk.safe _).1]; omega) fun v' w5 hN5 hk5 hb5 => ?_
      have nj : ¬ blk va jp := fun hb => by
        obtain ⟨c, hc⟩ := row_type hN3.own hb
        rw [ho3] at hc; cases hc
      have ho5 := hk5.at (hj3.ext hN4.ext).obj nj
      first | (simp (disch := first | omega | assumption | rfl | (simp only [vcS] <;> omega) | fail) only [↓ptV_l, ↓vcA, vcB, ↓vcD, vcE, ↓reduceIte, Nat.reduceEqDiff, Nat.reduceAdd, Nat.reduceMul, Nat.reduceLeDiff, Int.reduceLE, Int.reduceLT, Int.reduceEq, Int.reduceToNat, Int.reduceAdd, Int.reduceSub, Int.reduceMul, Int.reduceNeg, reduceCtorEq, Option.bind_some, Option.map_some, List.length_cons, List.length_nil, vcM, List.getElem?_toArray, List.getElem?_cons_zero, List.getElem?_cons_succ]) | skip
      (refine W_at c9_ok ?_; refine ⟨_, rfl, ?_⟩; simp (disch := first | omega | assumption | rfl | (simp only [vcS] <;> omega) | fail) only [↓ptV_l, ↓vcA, vcB, ↓vcD, vcE, ↓reduceIte, Nat.reduceEqDiff, Nat.reduceAdd, Nat.reduceMul, Nat.reduceLeDiff, Int.reduceLE, Int.reduceLT, Int.reduceEq, Int.reduceToNat, Int.reduceAdd, Int.reduceSub, Int.reduceMul, Int.reduceNeg, reduceCtorEq, Option.bind_some, Option.map_some, List.length_cons, List.length_nil, vcM, List.getElem?_toArray, List.getElem?_cons_zero, List.getElem?_cons_succ, hws])
      (refine W_at c9_ok ?_; refine ⟨_, rfl, ?_⟩; simp (disch := first | omega | assumption | rfl | (simp only [vcS] <;> omega) | fail) only [↓ptV_l, ↓vcA, vcB, ↓vcD, vcE, ↓reduceIte, Nat.reduceEqDiff, Nat.reduceAdd, Nat.reduceMul, Nat.reduceLeDiff, Int.reduceLE, Int.reduceLT, Int.reduceEq, Int.reduceToNat, Int.reduceAdd, Int.reduceSub, Int.reduceMul, Int.reduceNeg, reduceCtorEq, Option.bind_some, Option.map_some, List.length_cons, List.length_nil, vcM, List.getElem?_toArray, List.getElem?_cons_zero, List.getElem?_cons_succ])
      exact ih (i + 1) w5 v' (by omega) hN5 ⟨ho5, ByT.nil _, RowsT.nil _⟩
  exact L (secs d.n) 0 w2 _ (by omega) ⟨Own1.nil _, hE2, fun g hg => by cases hg⟩ hj2
end Go.Proofs
