/- The law FeesClones: its walk. -/
import Derived.Test.YtnbbgmnjjdaopaaFS
set_option linter.unusedSimpArgs false
set_option linter.unusedVariables false
set_option linter.constructorNameAsVariable false
namespace Go.Proofs
open Go.Vc Go.Proofs.Fees
set_option maxRecDepth 10000

set_option maxHeartbeats 1600000 in
/-- Behind the acts. -/
theorem clones_end (W0 wj : World) (n b c p q : Nat) (m m' : Option Nat) (cnt rc : List Int) (v : Value) (ws : List WE) (cnt' rc' : List Int) (v' : Value) (ws' : List WE) (a1 a2 : Value) (tl : Env) (h : Duo W0 wj n b c p q m m' cnt rc v ws cnt' rc' v' ws') :
    W Try.prog (Ret fun u w' => u = .bool true ∧ Ext W0 w') 6 18 ((1, a1) :: (2, a2) :: (7, .pointer (some ⟨b, 0, none⟩)) :: (8, .pointer (some ⟨p, 0, none⟩)) :: (9, .pointer (some ⟨c, 0, none⟩)) :: (10, .pointer (some ⟨q, 0, none⟩)) :: tl) wj := by
  have hl := h.a.rel.l2
  have hl' := h.t.rel.l2
  have hsz : (refC rc v).size = 313 := by rw [size_refC, hl]
  have hsz' : (refC rc' v').size = 313 := by rw [size_refC, hl']
  have hsl : (refC rc v)[312]? = some v := refC_sl hl.symm
  have hsl' : (refC rc' v')[312]? = some v' := refC_sl hl'.symm
  have hrf := refC_flat (rc := rc) (one_row h.a.row.1)
  have hrf' := refC_flat (rc := rc') (one_row h.t.row.1)
  have hlv := len_wait h.a.row
  have hlv' := len_wait h.t.row
  have ht := ints_take (v := v) hl
  have ht' := ints_take (v := v') hl'
  have hd := ints_drop (v := v) hl
  have hd' := ints_drop (v := v') hl'
  have hal := alike_is h.a.rel h.t.rel h.a.row.2 h.t.row.2 h.dt
  -- the end
  have hend : ∀ (al : Bool) (wk : World) (tl : Env), Duo W0 wk n b c p q m m' cnt rc v ws cnt' rc' v' ws' → al = (decide (cnt = cnt') && eqW ws ws') →
      W Try.prog (Ret fun u w' => u = .bool true ∧ Ext W0 w') 6 2 ((7, .pointer (some ⟨b, 0, none⟩)) :: (8, .pointer (some ⟨p, 0, none⟩)) :: (9, .pointer (some ⟨c, 0, none⟩)) :: (10, .pointer (some ⟨q, 0, none⟩)) :: (12, .bool al) :: tl) wk := by
    intro al wk tl h ha
    have hp := h.bp
    have hq := h.bq
    (refine W_at c6_ok ?_; refine ⟨_, rfl, ?_⟩; simp (disch := first | omega | assumption | rfl | (simp only [vcS] <;> omega) | fail) only [↓ptV_l, ↓vcA, vcB, ↓vcD, vcE, ↓reduceIte, Nat.reduceEqDiff, Nat.reduceAdd, Nat.reduceMul, Nat.reduceLeDiff, Int.reduceLE, Int.reduceLT, Int.reduceEq, Int.reduceToNat, Int.reduceAdd, Int.reduceSub, Int.reduceMul, Int.reduceNeg, reduceCtorEq, Option.bind_some, Option.map_some, List.length_cons, List.length_nil, vcM, List.getElem?_toArray, List.getElem?_cons_zero, List.getElem?_cons_succ, hp, hq, hsz, hsz', ext_all])
    refine callV_ret (is_ok wk b m cnt rc v ws h.a.book h.a.row h.a.rel) ?_
    rintro _ w2 ⟨rfl, hE2⟩
    have h2 := h.keep hE2
    have hq2 := h2.bq
    simp (disch := first | omega | assumption | rfl | (simp only [vcS] <;> omega) | fail) only [↓ptV_l, ↓vcA, vcB, ↓vcD, vcE, ↓reduceIte, Nat.reduceEqDiff, Nat.reduceAdd, Nat.reduceMul, Nat.reduceLeDiff, Int.reduceLE, Int.reduceLT, Int.reduceEq, Int.reduceToNat, Int.reduceAdd, Int.reduceSub, Int.reduceMul, Int.reduceNeg, reduceCtorEq, Option.bind_some, Option.map_some, List.length_cons, List.length_nil, vcM, List.getElem?_toArray, List.getElem?_cons_zero, List.getElem?_cons_succ, hq2, hsz', ext_all]
    refine callV_ret (is_ok w2 c m' cnt' rc' v' ws' h2.t.book h2.t.row h2.t.rel) ?_
    rintro _ w3 ⟨rfl, hE3⟩
    have h3 := h2.keep hE3
    first | (simp (disch := first | omega | assumption | rfl | (simp only [vcS] <;> omega) | fail) only [↓ptV_l, ↓vcA, vcB, ↓vcD, vcE, ↓reduceIte, Nat.reduceEqDiff, Nat.reduceAdd, Nat.reduceMul, Nat.reduceLeDiff, Int.reduceLE, Int.reduceLT, Int.reduceEq, Int.reduceToNat, Int.reduceAdd, Int.reduceSub, Int.reduceMul, Int.reduceNeg, reduceCtorEq, Option.bind_some, Option.map_some, List.length_cons, List.length_nil, vcM, List.getElem?_toArray, List.getElem?_cons_zero, List.getElem?_cons_succ]) | skip
    refine callV_ret (same_ok w3 b c cnt cnt' m m' ws ws' h3.a.book h3.t.book) ?_
    rintro _ w4 ⟨rfl, hE4⟩
    rw [← ha]
    simp (disch := first | omega | assumption | rfl | (simp only [vcS] <;> omega) | fail) only [↓ptV_l, ↓vcA, vcB, ↓vcD, vcE, ↓reduceIte, Nat.reduceEqDiff, Nat.reduceAdd, Nat.reduceMul, Nat.reduceLeDiff, Int.reduceLE, Int.reduceLT, Int.reduceEq, Int.reduceToNat, Int.reduceAdd, Int.reduceSub, Int.reduceMul, Int.reduceNeg, reduceCtorEq, Option.bind_some, Option.map_some, List.length_cons, List.length_nil, vcM, List.getElem?_toArray, List.getElem?_cons_zero, List.getElem?_cons_succ, beq_self_eq_true]
    (refine W_at c6_ok ?_; refine ⟨_, rfl, ?_⟩; simp (disch := first | omega | assumption | rfl | (simp only [vcS] <;> omega) | fail) only [↓ptV_l, ↓vcA, vcB, ↓vcD, vcE, ↓reduceIte, Nat.reduceEqDiff, Nat.reduceAdd, Nat.reduceMul, Nat.reduceLeDiff, Int.reduceLE, Int.reduceLT, Int.reduceEq, Int.reduceToNat, Int.reduceAdd, Int.reduceSub, Int.reduceMul, Int.reduceNeg, reduceCtorEq, Option.bind_some, Option.map_some, List.length_cons, List.length_nil, vcM, List.getElem?_toArray, List.getElem?_cons_zero, List.getElem?_cons_succ, Ret_returned])
    exact (h3.keep hE4).a.ext
  -- the loops
  have rest : ∀ (wk : World) (tl : Env), Duo W0 wk n b c p q m m' cnt rc v ws cnt' rc' v' ws' →
      W Try.prog (Ret fun u w' => u = .bool true ∧ Ext W0 w') 6 17 ((7, .pointer (some ⟨b, 0, none⟩)) :: (8, .pointer (some ⟨p, 0, none⟩)) :: (9, .pointer (some ⟨c, 0, none⟩)) :: (10, .pointer (some ⟨q, 0, none⟩)) :: (12, .bool (alikeW rc rc' ws ws')) :: tl) wk := by
    intro wk tl h
    have hp := h.bp
    (refine W_at c6_ok ?_; refine ⟨_, rfl, ?_⟩; simp (disch := first | omega | assumption | rfl | (simp only [vcS] <;> omega) | fail) only [↓ptV_l, ↓vcA, vcB, ↓vcD, vcE, ↓reduceIte, Nat.reduceEqDiff, Nat.reduceAdd, Nat.reduceMul, Nat.reduceLeDiff, Int.reduceLE, Int.reduceLT, Int.reduceEq, Int.reduceToNat, Int.reduceAdd, Int.reduceSub, Int.reduceMul, Int.reduceNeg, reduceCtorEq, Option.bind_some, Option.map_some, List.length_cons, List.length_nil, vcM, List.getElem?_toArray, List.getElem?_cons_zero, List.getElem?_cons_succ, hp, hsl, hlv])
    have hlm := (own_len h.a.row)
    have hlm' := (own_len h.t.row)
    simp only [maxLen] at hlm hlm'
    have L : ∀ (k i : Nat) (al : Bool) (wk : World) (tl : Env), k + i = ws.length → Duo W0 wk n b c p q m m' cnt rc v ws cnt' rc' v' ws' → al = (alikeW rc rc' ws ws' && (ws.take i).all (foundW · ws')) →
        W Try.prog (Ret fun u w' => u = .bool true ∧ Ext W0 w') 6 16 ((7, .pointer (some ⟨b, 0, none⟩)) :: (8, .pointer (some ⟨p, 0, none⟩)) :: (9, .pointer (some ⟨c, 0, none⟩)) :: (10, .pointer (some ⟨q, 0, none⟩)) :: (12, .bool al) :: (80, v) :: (81, .int .i64 ws.length) :: (82, .int .i64 i) :: tl) wk := by
      intro k
      induction k with
      | zero =>
        intro i al wk tl hi h ha
        have hil : ¬ ((i : Int) < (ws.length : Int)) := by omega
        (refine W_at c6_ok ?_; refine ⟨_, rfl, ?_⟩; simp (disch := first | omega | assumption | rfl | (simp only [vcS] <;> omega) | fail) only [↓ptV_l, ↓vcA, vcB, ↓vcD, vcE, ↓reduceIte, Nat.reduceEqDiff, Nat.reduceAdd, Nat.reduceMul, Nat.reduceLeDiff, Int.reduceLE, Int.reduceLT, Int.reduceEq, Int.reduceToNat, Int.reduceAdd, Int.reduceSub, Int.reduceMul, Int.reduceNeg, reduceCtorEq, Option.bind_some, Option.map_some, List.length_cons, List.length_nil, vcM, List.getElem?_toArray, List.getElem?_cons_zero, List.getElem?_cons_succ, hil])
        (refine W_at c6_ok ?_; refine ⟨_, rfl, ?_⟩; simp (disch := first | omega | assumption | rfl | (simp only [vcS] <;> omega) | fail) only [↓ptV_l, ↓vcA, vcB, ↓vcD, vcE, ↓reduceIte, Nat.reduceEqDiff, Nat.reduceAdd, Nat.reduceMul, Nat.reduceLeDiff, Int.reduceLE, Int.reduceLT, Int.reduceEq, Int.reduceToNat, Int.reduceAdd, Int.reduceSub, Int.reduceMul, Int.reduceNeg, reduceCtorEq, Option.bind_some, Option.map_some, List.length_cons, List.length_nil, vcM, List.getElem?_toArray, List.getElem?_cons_zero, List.getElem?_cons_succ])
        rw [List.take_of_length_le (by omega), hal] at ha
        exact hend al wk _ h ha
      | succ k ih =>
        intro i al wk tl hi h ha
        have hil : (i : Int) < (ws.length : Int) := by omega
        have hi2 : 0 ≤ (i : Int) ∧ (i : Int) < (ws.length : Int) := by omega
        have hjm : i < (ws.map wcell).length := by rw [List.length_map]; omega
        obtain ⟨g, cap, cur, hv, hg, hle, hext, _, hmax⟩ := own_at h.a.row.1 (fun c hc => by obtain ⟨e, he, rfl⟩ := List.mem_map.1 hc; exact wcell_size (h.a.row.2 e he)) hjm
        have hke := h.a.row.2 _ (List.getElem_mem (show i < ws.length by omega))
        rw [List.getElem_map] at hext
        rw [List.length_map] at hv
        have hxs := wcell_size hke
        have hxf := wcell_flat hke
        have hwi : IntKind.i64.wrap ((i : Int) + 1) = ((i + 1 : Nat) : Int) := wrap_i64 (by omega) (by omega)
        have hz : (zc [(32, Value.int .u8 0), (2, .int .i64 0)]).size = 34 := by simp [size_zc]
        have hws : ws.take (i + 1) = ws.take i ++ [ws[i]'(by omega)] := List.take_succ_eq_append_getElem (by omega)
        subst hv
        (refine W_at c6_ok ?_; refine ⟨_, rfl, ?_⟩; simp (disch := first | omega | assumption | rfl | (simp only [vcS] <;> omega) | fail) only [↓ptV_l, ↓vcA, vcB, ↓vcD, vcE, ↓reduceIte, Nat.reduceEqDiff, Nat.reduceAdd, Nat.reduceMul, Nat.reduceLeDiff, Int.reduceLE, Int.reduceLT, Int.reduceEq, Int.reduceToNat, Int.reduceAdd, Int.reduceSub, Int.reduceMul, Int.reduceNeg, reduceCtorEq, Option.bind_some, Option.map_some, List.length_cons, List.length_nil, vcM, List.getElem?_toArray, List.getElem?_cons_zero, List.getElem?_cons_succ, hil])
        (refine W_at c6_ok ?_; refine ⟨_, rfl, ?_⟩; simp (disch := first | omega | assumption | rfl | (simp only [vcS] <;> omega) | fail) only [↓ptV_l, ↓vcA, vcB, ↓vcD, vcE, ↓reduceIte, Nat.reduceEqDiff, Nat.reduceAdd, Nat.reduceMul, Nat.reduceLeDiff, Int.reduceLE, Int.reduceLT, Int.reduceEq, Int.reduceToNat, Int.reduceAdd, Int.reduceSub, Int.reduceMul, Int.reduceNeg, reduceCtorEq, Option.bind_some, Option.map_some, List.length_cons, List.length_nil, vcM, List.getElem?_toArray, List.getElem?_cons_zero, List.getElem?_cons_succ])
        generalize ws[i] = x at *
        (refine W_at c6_ok ?_; refine ⟨_, rfl, ?_⟩; simp (disch := first | omega | assumption | rfl | (simp only [vcS] <;> omega) | fail) only [↓ptV_l, ↓vcA, vcB, ↓vcD, vcE, ↓reduceIte, Nat.reduceEqDiff, Nat.reduceAdd, Nat.reduceMul, Nat.reduceLeDiff, Int.reduceLE, Int.reduceLT, Int.reduceEq, Int.reduceToNat, Int.reduceAdd, Int.reduceSub, Int.reduceMul, Int.reduceNeg, reduceCtorEq, Option.bind_some, Option.map_some, List.length_cons, List.length_nil, vcM, List.getElem?_toArray, List.getElem?_cons_zero, List.getElem?_cons_succ, hi2, hg, hext, hxs, hz, Int.toNat_natCast])
        refine ⟨hxf, ?_⟩
        have hE1 : Ext wk ((wk.alloc (.cells (zc [(32, Value.int .u8 0), (2, .int .i64 0)]) 49)).putN wk.heap.size 0 (wcell x)) := by (repeat' first | exact Keep.refl _ _ | assumption | refine Keep.drew ?_ | refine Keep.alloc ?_ _ | refine Keep.putN ?_ _ ?_ | refine Keep.setCell ?_ _ ?_ | refine Keep.setO ?_ _ ?_ | exact fun _ => Or.inl rfl | exact fun _ => Or.inr rfl | exact fun _ => rfl | (intro hh; exfalso; ((try simp only [vcS] at hh) <;> omega)))
        have hp14 : ((wk.alloc (.cells (zc [(32, Value.int .u8 0), (2, .int .i64 0)]) 49)).putN wk.heap.size 0 (wcell x)).heap[wk.heap.size]? = some (.cells (wcell x) 49 (0, 0)) := by
          rw [heap_putN_eq (heap_new _ _ _ rfl), splice_all (by rw [hxs, hz])]
        have h1 := h.keep hE1
        generalize World.putN _ _ _ _ = w1 at hE1 hp14 h1 ⊢
        generalize wk.heap.size = p14 at hp14 ⊢
        (refine W_at c6_ok ?_; refine ⟨_, rfl, ?_⟩; simp (disch := first | omega | assumption | rfl | (simp only [vcS] <;> omega) | fail) only [↓ptV_l, ↓vcA, vcB, ↓vcD, vcE, ↓reduceIte, Nat.reduceEqDiff, Nat.reduceAdd, Nat.reduceMul, Nat.reduceLeDiff, Int.reduceLE, Int.reduceLT, Int.reduceEq, Int.reduceToNat, Int.reduceAdd, Int.reduceSub, Int.reduceMul, Int.reduceNeg, reduceCtorEq, Option.bind_some, Option.map_some, List.length_cons, List.length_nil, vcM, List.getElem?_toArray, List.getElem?_cons_zero, List.getElem?_cons_succ])
        have hq1 := h1.bq
        (refine W_at c6_ok ?_; refine ⟨_, rfl, ?_⟩; simp (disch := first | omega | assumption | rfl | (simp only [vcS] <;> omega) | fail) only [↓ptV_l, ↓vcA, vcB, ↓vcD, vcE, ↓reduceIte, Nat.reduceEqDiff, Nat.reduceAdd, Nat.reduceMul, Nat.reduceLeDiff, Int.reduceLE, Int.reduceLT, Int.reduceEq, Int.reduceToNat, Int.reduceAdd, Int.reduceSub, Int.reduceMul, Int.reduceNeg, reduceCtorEq, Option.bind_some, Option.map_some, List.length_cons, List.length_nil, vcM, List.getElem?_toArray, List.getElem?_cons_zero, List.getElem?_cons_succ, hq1, hsl', hlv'])
        have L2 : ∀ (k2 j : Nat) (fo : Bool) (w2 : World) (tl2 : Env), k2 + j = ws'.length → Ext w1 w2 → fo = (ws'.take j).any (fun y => eqc (wcell x).toList (wcell y).toList) →
            W Try.prog (Ret fun u w' => u = .bool true ∧ Ext W0 w') 6 11 ((7, .pointer (some ⟨b, 0, none⟩)) :: (8, .pointer (some ⟨p, 0, none⟩)) :: (9, .pointer (some ⟨c, 0, none⟩)) :: (10, .pointer (some ⟨q, 0, none⟩)) :: (12, .bool al) :: (14, .pointer (some ⟨p14, 0, none⟩)) :: (15, .bool fo) :: (80, .slice (some ⟨g, 0, none⟩) ws.length cap) :: (81, .int .i64 ws.length) :: (82, .int .i64 i) :: (87, v') :: (88, .int .i64 ws'.length) :: (89, .int .i64 j) :: tl2) w2 := by
          intro k2
          induction k2 with
          | zero =>
            intro j fo w2 tl2 hj hE2 hf
            have hjl : ¬ ((j : Int) < (ws'.length : Int)) := by omega
            rw [List.take_of_length_le (by omega)] at hf
            have hnext : (alikeW rc rc' ws ws' && (ws.take (i + 1)).all (foundW · ws')) = (al && fo) := by
              rw [hws, List.all_append, ← Bool.and_assoc, ← ha]
              simp only [List.all_cons, List.all_nil, Bool.and_true]
              rw [hf]; rfl
            (refine W_at c6_ok ?_; refine ⟨_, rfl, ?_⟩; simp (disch := first | omega | assumption | rfl | (simp only [vcS] <;> omega) | fail) only [↓ptV_l, ↓vcA, vcB, ↓vcD, vcE, ↓reduceIte, Nat.reduceEqDiff, Nat.reduceAdd, Nat.reduceMul, Nat.reduceLeDiff, Int.reduceLE, Int.reduceLT, Int.reduceEq, Int.reduceToNat, Int.reduceAdd, Int.reduceSub, Int.reduceMul, Int.reduceNeg, reduceCtorEq, Option.bind_some, Option.map_some, List.length_cons, List.length_nil, vcM, List.getElem?_toArray, List.getElem?_cons_zero, List.getElem?_cons_succ, hjl])
            (refine W_at c6_ok ?_; refine ⟨_, rfl, ?_⟩; simp (disch := first | omega | assumption | rfl | (simp only [vcS] <;> omega) | fail) only [↓ptV_l, ↓vcA, vcB, ↓vcD, vcE, ↓reduceIte, Nat.reduceEqDiff, Nat.reduceAdd, Nat.reduceMul, Nat.reduceLeDiff, Int.reduceLE, Int.reduceLT, Int.reduceEq, Int.reduceToNat, Int.reduceAdd, Int.reduceSub, Int.reduceMul, Int.reduceNeg, reduceCtorEq, Option.bind_some, Option.map_some, List.length_cons, List.length_nil, vcM, List.getElem?_toArray, List.getElem?_cons_zero, List.getElem?_cons_succ])
            cases al with
            | false =>
              (refine W_at c6_ok ?_; refine ⟨_, rfl, ?_⟩; simp (disch := first | omega | assumption | rfl | (simp only [vcS] <;> omega) | fail) only [↓ptV_l, ↓vcA, vcB, ↓vcD, vcE, ↓reduceIte, Nat.reduceEqDiff, Nat.reduceAdd, Nat.reduceMul, Nat.reduceLeDiff, Int.reduceLE, Int.reduceLT, Int.reduceEq, Int.reduceToNat, Int.reduceAdd, Int.reduceSub, Int.reduceMul, Int.reduceNeg, reduceCtorEq, Option.bind_some, Option.map_some, List.length_cons, List.length_nil, vcM, List.getElem?_toArray, List.getElem?_cons_zero, List.getElem?_cons_succ])
              (refine W_at c6_ok ?_; refine ⟨_, rfl, ?_⟩; simp (disch := first | omega | assumption | rfl | (simp only [vcS] <;> omega) | fail) only [↓ptV_l, ↓vcA, vcB, ↓vcD, vcE, ↓reduceIte, Nat.reduceEqDiff, Nat.reduceAdd, Nat.reduceMul, Nat.reduceLeDiff, Int.reduceLE, Int.reduceLT, Int.reduceEq, Int.reduceToNat, Int.reduceAdd, Int.reduceSub, Int.reduceMul, Int.reduceNeg, reduceCtorEq, Option.bind_some, Option.map_some, List.length_cons, List.length_nil, vcM, List.getElem?_toArray, List.getElem?_cons_zero, List.getElem?_cons_succ, hwi])
              (refine W_at c6_ok ?_; refine ⟨_, rfl, ?_⟩; simp (disch := first | omega | assumption | rfl | (simp only [vcS] <;> omega) | fail) only [↓ptV_l, ↓vcA, vcB, ↓vcD, vcE, ↓reduceIte, Nat.reduceEqDiff, Nat.reduceAdd, Nat.reduceMul, Nat.reduceLeDiff, Int.reduceLE, Int.reduceLT, Int.reduceEq, Int.reduceToNat, Int.reduceAdd, Int.reduceSub, Int.reduceMul, Int.reduceNeg, reduceCtorEq, Option.bind_some, Option.map_some, List.length_cons, List.length_nil, vcM, List.getElem?_toArray, List.getElem?_cons_zero, List.getElem?_cons_succ])
              exact ih (i + 1) false w2 _ (by omega) (h1.keep hE2) (by rw [hnext]; rfl)
            | true =>
              (refine W_at c6_ok ?_; refine ⟨_, rfl, ?_⟩; simp (disch := first | omega | assumption | rfl | (simp only [vcS] <;> omega) | fail) only [↓ptV_l, ↓vcA, vcB, ↓vcD, vcE, ↓reduceIte, Nat.reduceEqDiff, Nat.reduceAdd, Nat.reduceMul, Nat.reduceLeDiff, Int.reduceLE, Int.reduceLT, Int.reduceEq, Int.reduceToNat, Int.reduceAdd, Int.reduceSub, Int.reduceMul, Int.reduceNeg, reduceCtorEq, Option.bind_some, Option.map_some, List.length_cons, List.length_nil, vcM, List.getElem?_toArray, List.getElem?_cons_zero, List.getElem?_cons_succ])
              (refine W_at c6_ok ?_; refine ⟨_, rfl, ?_⟩; simp (disch := first | omega | assumption | rfl | (simp only [vcS] <;> omega) | fail) only [↓ptV_l, ↓vcA, vcB, ↓vcD, vcE, ↓reduceIte, Nat.reduceEqDiff, Nat.reduceAdd, Nat.reduceMul, Nat.reduceLeDiff, Int.reduceLE, Int.reduceLT, Int.reduceEq, Int.reduceToNat, Int.reduceAdd, Int.reduceSub, Int.reduceMul, Int.reduceNeg, reduceCtorEq, Option.bind_some, Option.map_some, List.length_cons, List.length_nil, vcM, List.getElem?_toArray, List.getElem?_cons_zero, List.getElem?_cons_succ, hwi])
              (refine W_at c6_ok ?_; refine ⟨_, rfl, ?_⟩; simp (disch := first | omega | assumption | rfl | (simp only [vcS] <;> omega) | fail) only [↓ptV_l, ↓vcA, vcB, ↓vcD, vcE, ↓reduceIte, Nat.reduceEqDiff, Nat.reduceAdd, Nat.reduceMul, Nat.reduceLeDiff, Int.reduceLE, Int.reduceLT, Int.reduceEq, Int.reduceToNat, Int.reduceAdd, Int.reduceSub, Int.reduceMul, Int.reduceNeg, reduceCtorEq, Option.bind_some, Option.map_some, List.length_cons, List.length_nil, vcM, List.getElem?_toArray, List.getElem?_cons_zero, List.getElem?_cons_succ])
              exact ih (i + 1) fo w2 _ (by omega) (h1.keep hE2) (by rw [hnext]; rfl)
          | succ k2 ih2 =>
            intro j fo w2 tl2 hj hE2 hf
            have hjl : (j : Int) < (ws'.length : Int) := by omega
            have hj2 : 0 ≤ (j : Int) ∧ (j : Int) < (ws'.length : Int) := by omega
            have hjm' : j < (ws'.map wcell).length := by rw [List.length_map]; omega
            have h2 := h1.keep hE2
            obtain ⟨g', cap', cur', hv', hg', hle', hext', _, _⟩ := own_at h2.t.row.1 (fun c hc => by obtain ⟨e, he, rfl⟩ := List.mem_map.1 hc; exact wcell_size (h2.t.row.2 e he)) hjm'
            have hke' := h2.t.row.2 _ (List.getElem_mem (show j < ws'.length by omega))
            rw [List.getElem_map] at hext'
            rw [List.length_map] at hv'
            have hys := wcell_size hke'
            have hyf := wcell_flat hke'
            have hcf : conf (skR [(32, SK.i .u8), (2, SK.i .i64)]) (wcell x).toList = true ∧ conf (skR [(32, SK.i .u8), (2, SK.i .i64)]) (wcell (ws'[j]'(by omega))).toList = true := ⟨wcell_conf hke, wcell_conf hke'⟩
            have hwj : IntKind.i64.wrap ((j : Int) + 1) = ((j + 1 : Nat) : Int) := wrap_i64 (by omega) (by omega)
            have htk : ws'.take (j + 1) = ws'.take j ++ [ws'[j]'(by omega)] := List.take_succ_eq_append_getElem (by omega)
            have hp142 := hE2.at hp14 (fun h => h)
            subst hv'
            (refine W_at c6_ok ?_; refine ⟨_, rfl, ?_⟩; simp (disch := first | omega | assumption | rfl | (simp only [vcS] <;> omega) | fail) only [↓ptV_l, ↓vcA, vcB, ↓vcD, vcE, ↓reduceIte, Nat.reduceEqDiff, Nat.reduceAdd, Nat.reduceMul, Nat.reduceLeDiff, Int.reduceLE, Int.reduceLT, Int.reduceEq, Int.reduceToNat, Int.reduceAdd, Int.reduceSub, Int.reduceMul, Int.reduceNeg, reduceCtorEq, Option.bind_some, Option.map_some, List.length_cons, List.length_nil, vcM, List.getElem?_toArray, List.getElem?_cons_zero, List.getElem?_cons_succ, hjl])
            (refine W_at c6_ok ?_; refine ⟨_, rfl, ?_⟩; simp (disch := first | omega | assumption | rfl | (simp only [vcS] <;> omega) | fail) only [↓ptV_l, ↓vcA, vcB, ↓vcD, vcE, ↓reduceIte, Nat.reduceEqDiff, Nat.reduceAdd, Nat.reduceMul, Nat.reduceLeDiff, Int.reduceLE, Int.reduceLT, Int.reduceEq, Int.reduceToNat, Int.reduceAdd, Int.reduceSub, Int.reduceMul, Int.reduceNeg, reduceCtorEq, Option.bind_some, Option.map_some, List.length_cons, List.length_nil, vcM, List.getElem?_toArray, List.getElem?_cons_zero, List.getElem?_cons_succ])
            generalize ws'[j] = y at *
            (refine W_at c6_ok ?_; refine ⟨_, rfl, ?_⟩; simp (disch := first | omega | assumption | rfl | (simp only [vcS] <;> omega) | fail) only [↓ptV_l, ↓vcA, vcB, ↓vcD, vcE, ↓reduceIte, Nat.reduceEqDiff, Nat.reduceAdd, Nat.reduceMul, Nat.reduceLeDiff, Int.reduceLE, Int.reduceLT, Int.reduceEq, Int.reduceToNat, Int.reduceAdd, Int.reduceSub, Int.reduceMul, Int.reduceNeg, reduceCtorEq, Option.bind_some, Option.map_some, List.length_cons, List.length_nil, vcM, List.getElem?_toArray, List.getElem?_cons_zero, List.getElem?_cons_succ, hj2, hg', hext', hys, hz, Int.toNat_natCast])
            refine ⟨hyf, ?_⟩
            have hE3 : Ext w2 ((w2.alloc (.cells (zc [(32, Value.int .u8 0), (2, .int .i64 0)]) 49)).putN w2.heap.size 0 (wcell y)) := by (repeat' first | exact Keep.refl _ _ | assumption | refine Keep.drew ?_ | refine Keep.alloc ?_ _ | refine Keep.putN ?_ _ ?_ | refine Keep.setCell ?_ _ ?_ | refine Keep.setO ?_ _ ?_ | exact fun _ => Or.inl rfl | exact fun _ => Or.inr rfl | exact fun _ => rfl | (intro hh; exfalso; ((try simp only [vcS] at hh) <;> omega)))
            have hp17 : ((w2.alloc (.cells (zc [(32, Value.int .u8 0), (2, .int .i64 0)]) 49)).putN w2.heap.size 0 (wcell y)).heap[w2.heap.size]? = some (.cells (wcell y) 49 (0, 0)) := by
              rw [heap_putN_eq (heap_new _ _ _ rfl), splice_all (by rw [hys, hz])]
            have hp143 := hE3.at hp142 (fun h => h)
            generalize World.putN _ _ _ _ = w3 at hE3 hp17 hp143 ⊢
            generalize w2.heap.size = p17 at hp17 ⊢
            have hf2 : ∀ r, (fo || r) = (ws'.take (j + 1)).any (fun y => eqc (wcell x).toList (wcell y).toList) ↔ (fo || r) = (fo || eqc (wcell x).toList (wcell y).toList) := fun r => by
              rw [htk, List.any_append, ← hf]; simp
            cases fo with
            | true =>
              (refine W_at c6_ok ?_; refine ⟨_, rfl, ?_⟩; simp (disch := first | omega | assumption | rfl | (simp only [vcS] <;> omega) | fail) only [↓ptV_l, ↓vcA, vcB, ↓vcD, vcE, ↓reduceIte, Nat.reduceEqDiff, Nat.reduceAdd, Nat.reduceMul, Nat.reduceLeDiff, Int.reduceLE, Int.reduceLT, Int.reduceEq, Int.reduceToNat, Int.reduceAdd, Int.reduceSub, Int.reduceMul, Int.reduceNeg, reduceCtorEq, Option.bind_some, Option.map_some, List.length_cons, List.length_nil, vcM, List.getElem?_toArray, List.getElem?_cons_zero, List.getElem?_cons_succ])
              (refine W_at c6_ok ?_; refine ⟨_, rfl, ?_⟩; simp (disch := first | omega | assumption | rfl | (simp only [vcS] <;> omega) | fail) only [↓ptV_l, ↓vcA, vcB, ↓vcD, vcE, ↓reduceIte, Nat.reduceEqDiff, Nat.reduceAdd, Nat.reduceMul, Nat.reduceLeDiff, Int.reduceLE, Int.reduceLT, Int.reduceEq, Int.reduceToNat, Int.reduceAdd, Int.reduceSub, Int.reduceMul, Int.reduceNeg, reduceCtorEq, Option.bind_some, Option.map_some, List.length_cons, List.length_nil, vcM, List.getElem?_toArray, List.getElem?_cons_zero, List.getElem?_cons_succ, hwj])
              (refine W_at c6_ok ?_; refine ⟨_, rfl, ?_⟩; simp (disch := first | omega | assumption | rfl | (simp only [vcS] <;> omega) | fail) only [↓ptV_l, ↓vcA, vcB, ↓vcD, vcE, ↓reduceIte, Nat.reduceEqDiff, Nat.reduceAdd, Nat.reduceMul, Nat.reduceLeDiff, Int.reduceLE, Int.reduceLT, Int.reduceEq, Int.reduceToNat, Int.reduceAdd, Int.reduceSub, Int.reduceMul, Int.reduceNeg, reduceCtorEq, Option.bind_some, Option.map_some, List.length_cons, List.length_nil, vcM, List.getElem?_toArray, List.getElem?_cons_zero, List.getElem?_cons_succ])
              exact ih2 (j + 1) true w3 _ (by omega) (hE2.ext hE3) ((hf2 true).2 rfl)
            | false =>
              (refine W_at c6_ok ?_; refine ⟨_, rfl, ?_⟩; simp (disch := first | omega | assumption | rfl | (simp only [vcS] <;> omega) | fail) only [↓ptV_l, ↓vcA, vcB, ↓vcD, vcE, ↓reduceIte, Nat.reduceEqDiff, Nat.reduceAdd, Nat.reduceMul, Nat.reduceLeDiff, Int.reduceLE, Int.reduceLT, Int.reduceEq, Int.reduceToNat, Int.reduceAdd, Int.reduceSub, Int.reduceMul, Int.reduceNeg, reduceCtorEq, Option.bind_some, Option.map_some, List.length_cons, List.length_nil, vcM, List.getElem?_toArray, List.getElem?_cons_zero, List.getElem?_cons_succ, hp143, hp17, hxs, hys, ext_all, hcf, Bool.false_xor])
              (refine W_at c6_ok ?_; refine ⟨_, rfl, ?_⟩; simp (disch := first | omega | assumption | rfl | (simp only [vcS] <;> omega) | fail) only [↓ptV_l, ↓vcA, vcB, ↓vcD, vcE, ↓reduceIte, Nat.reduceEqDiff, Nat.reduceAdd, Nat.reduceMul, Nat.reduceLeDiff, Int.reduceLE, Int.reduceLT, Int.reduceEq, Int.reduceToNat, Int.reduceAdd, Int.reduceSub, Int.reduceMul, Int.reduceNeg, reduceCtorEq, Option.bind_some, Option.map_some, List.length_cons, List.length_nil, vcM, List.getElem?_toArray, List.getElem?_cons_zero, List.getElem?_cons_succ, hwj])
              (refine W_at c6_ok ?_; refine ⟨_, rfl, ?_⟩; simp (disch := first | omega | assumption | rfl | (simp only [vcS] <;> omega) | fail) only [↓ptV_l, ↓vcA, vcB, ↓vcD, vcE, ↓reduceIte, Nat.reduceEqDiff, Nat.reduceAdd, Nat.reduceMul, Nat.reduceLeDiff, Int.reduceLE, Int.reduceLT, Int.reduceEq, Int.reduceToNat, Int.reduceAdd, Int.reduceSub, Int.reduceMul, Int.reduceNeg, reduceCtorEq, Option.bind_some, Option.map_some, List.length_cons, List.length_nil, vcM, List.getElem?_toArray, List.getElem?_cons_zero, List.getElem?_cons_succ])
              exact ih2 (j + 1) _ w3 _ (by omega) (hE2.ext hE3) ((hf2 _).2 rfl)
        exact L2 ws'.length 0 false w1 _ rfl (Keep.refl _ w1) (by simp)
    exact L ws.length 0 _ wk _ rfl h (by simp)
  have hp := h.bp
  have hq := h.bq
  have hc1 : conf (skR [(24, SK.i .i64)]) (ints (rc.take 24)).toArray.toList = true ∧ conf (skR [(24, SK.i .i64)]) (ints (rc'.take 24)).toArray.toList = true := ⟨ints_confN _ _ (by simp [hl]), ints_confN _ _ (by simp [hl'])⟩
  have hc2 : conf (skR [(288, SK.i .i64)]) (ints (rc.drop 24)).toArray.toList = true ∧ conf (skR [(288, SK.i .i64)]) (ints (rc'.drop 24)).toArray.toList = true := ⟨ints_confN _ _ (by simp [hl]), ints_confN _ _ (by simp [hl'])⟩
  have q1 := ints_eqc (rc.take 24) (rc'.take 24)
  have q2 := ints_eqc (rc.drop 24) (rc'.drop 24)
  have hr := rest
  unfold alikeW at hr
  by_cases h1 : rc.take 24 = rc'.take 24
  · rw [decide_eq_true h1] at q1 hr
    by_cases h2 : rc.drop 24 = rc'.drop 24
    · rw [decide_eq_true h2] at q2 hr
      (refine W_at c6_ok ?_; refine ⟨_, rfl, ?_⟩; simp (disch := first | omega | assumption | rfl | (simp only [vcS] <;> omega) | fail) only [↓ptV_l, ↓vcA, vcB, ↓vcD, vcE, ↓reduceIte, Nat.reduceEqDiff, Nat.reduceAdd, Nat.reduceMul, Nat.reduceLeDiff, Int.reduceLE, Int.reduceLT, Int.reduceEq, Int.reduceToNat, Int.reduceAdd, Int.reduceSub, Int.reduceMul, Int.reduceNeg, reduceCtorEq, Option.bind_some, Option.map_some, List.length_cons, List.length_nil, vcM, List.getElem?_toArray, List.getElem?_cons_zero, List.getElem?_cons_succ, hp, hq, hsz, hsz', ht, ht', hd, hd', hc1, hc2, q1, q2, Bool.false_xor, hsl, hsl', hlv, hlv'])
      have e : decide ((ws.length : Int) = ws'.length) = decide (ws.length = ws'.length) := by rw [decide_eq_decide]; omega
      rw [e]
      exact hr _ _ h
    · rw [decide_eq_false h2] at q2 hr
      (refine W_at c6_ok ?_; refine ⟨_, rfl, ?_⟩; simp (disch := first | omega | assumption | rfl | (simp only [vcS] <;> omega) | fail) only [↓ptV_l, ↓vcA, vcB, ↓vcD, vcE, ↓reduceIte, Nat.reduceEqDiff, Nat.reduceAdd, Nat.reduceMul, Nat.reduceLeDiff, Int.reduceLE, Int.reduceLT, Int.reduceEq, Int.reduceToNat, Int.reduceAdd, Int.reduceSub, Int.reduceMul, Int.reduceNeg, reduceCtorEq, Option.bind_some, Option.map_some, List.length_cons, List.length_nil, vcM, List.getElem?_toArray, List.getElem?_cons_zero, List.getElem?_cons_succ, hp, hq, hsz, hsz', ht, ht', hd, hd', hc1, hc2, q1, q2, Bool.false_xor, hsl, hsl', hlv, hlv'])
      exact hr _ _ h
  · rw [decide_eq_false h1] at q1 hr
    (refine W_at c6_ok ?_; refine ⟨_, rfl, ?_⟩; simp (disch := first | omega | assumption | rfl | (simp only [vcS] <;> omega) | fail) only [↓ptV_l, ↓vcA, vcB, ↓vcD, vcE, ↓reduceIte, Nat.reduceEqDiff, Nat.reduceAdd, Nat.reduceMul, Nat.reduceLeDiff, Int.reduceLE, Int.reduceLT, Int.reduceEq, Int.reduceToNat, Int.reduceAdd, Int.reduceSub, Int.reduceMul, Int.reduceNeg, reduceCtorEq, Option.bind_some, Option.map_some, List.length_cons, List.length_nil, vcM, List.getElem?_toArray, List.getElem?_cons_zero, List.getElem?_cons_succ, hp, hq, hsz, hsz', ht, ht', hc1, q1, Bool.false_xor])
    exact hr _ _ h
end Go.Proofs
