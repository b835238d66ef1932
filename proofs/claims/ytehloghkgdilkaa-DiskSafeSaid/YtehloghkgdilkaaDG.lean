/- The law DiskSafe: its walk. -/
import Derived.Test.YtehloghkgdilkaaDF
set_option linter.unusedSimpArgs false
set_option linter.unusedVariables false
set_option linter.constructorNameAsVariable false
namespace Go.Proofs
open Go.Vc
set_option maxRecDepth 10000

theorem actD_n (d : DS) (kind n m : Int) (bs : List Int) : (actD d kind n m bs).n = d.n := by
  obtain ⟨_, e2, _⟩ := callD_q d
  unfold actD
  split
  · unfold writeD
    split
    · split
      · rfl
      · split
        · exact e2
        · exact e2
    · rfl
  · split
    · unfold syncD
      split
      · exact e2
      · exact e2
    · split
      · rfl
      · split <;> rfl
def safeD (d : DS) : DS := { d with queue := [], left := -1, dead := false }
theorem safeD_ok {d : DS} (h : d.Ok) : (safeD d).Ok := ⟨h.n, h.safe, fun _ h => (by cases h), Nat.zero_le _, by simp [safeD]⟩
theorem read_clean {d : DS} (hq : d.queue = []) (hd : d.dead = false) {i : Int} (hi : thereB d.n i = true) : readE d i = 0 ∧ readB d i = d.safe i := by
  have h1 : readE d i = 0 := by unfold readE; rw [hi, hd]; rfl
  refine ⟨h1, ?_⟩
  unfold readB readS
  rw [if_pos h1, hq]; rfl
set_option maxHeartbeats 6400000 in
theorem safe_ok (w : World) (q : Option Addr) (nn c : Nat) (xs : List (Array Value)) (keep torn : Int) (hA : ActsAt w q nn c xs) :
    Calls Try.prog 4 #[.slice q nn c, .int .i64 keep, .int .i64 torn] w (Ret fun u w' => u = .bool true ∧ Ext w w') := by
  refine calls_of_cfg c4_ok (Nat.le_of_ble_eq_true rfl) ?_
  simp only [argE_nil, argE_cons, Nat.reduceAdd, Nat.zero_add]
  have hz4 : zc [(2, Value.slice none 0 0), (1, .int .i64 0), (1, .bool false)] = #[.slice none 0 0, .slice none 0 0, .int .i64 0, .bool false] := rfl
  have hof : okO (some (.cells #[.slice none 0 0, .slice none 0 0, .int .i64 0, .bool false] 30 (0, 0))) 0 4 = True := by simp [okO]
  (refine W_at c4_ok ?_; refine ⟨_, rfl, ?_⟩; simp (disch := first | omega | assumption | rfl | (simp only [vcS] <;> omega) | fail) only [↓ptV_l, ↓vcA, vcB, ↓vcD, vcE, ↓reduceIte, Nat.reduceEqDiff, Nat.reduceAdd, Nat.reduceMul, Nat.reduceLeDiff, Int.reduceLE, Int.reduceLT, Int.reduceEq, Int.reduceToNat, Int.reduceAdd, Int.reduceSub, Int.reduceMul, Int.reduceNeg, reduceCtorEq, Option.bind_some, Option.map_some, List.length_cons, List.length_nil, vcM, List.getElem?_toArray, List.getElem?_cons_zero, List.getElem?_cons_succ])
  (refine W_at c4_ok ?_; refine ⟨_, rfl, ?_⟩; simp (disch := first | omega | assumption | rfl | (simp only [vcS] <;> omega) | fail) only [↓ptV_l, ↓vcA, vcB, ↓vcD, vcE, ↓reduceIte, Nat.reduceEqDiff, Nat.reduceAdd, Nat.reduceMul, Nat.reduceLeDiff, Int.reduceLE, Int.reduceLT, Int.reduceEq, Int.reduceToNat, Int.reduceAdd, Int.reduceSub, Int.reduceMul, Int.reduceNeg, reduceCtorEq, Option.bind_some, Option.map_some, List.length_cons, List.length_nil, vcM, List.getElem?_toArray, List.getElem?_cons_zero, List.getElem?_cons_succ])
  refine callV_ret (awake_ok w) ?_
  rintro _ w1 ⟨rfl, hE1⟩
  first | (simp (disch := first | omega | assumption | rfl | (simp only [vcS] <;> omega) | fail) only [↓ptV_l, ↓vcA, vcB, ↓vcD, vcE, ↓reduceIte, Nat.reduceEqDiff, Nat.reduceAdd, Nat.reduceMul, Nat.reduceLeDiff, Int.reduceLE, Int.reduceLT, Int.reduceEq, Int.reduceToNat, Int.reduceAdd, Int.reduceSub, Int.reduceMul, Int.reduceNeg, reduceCtorEq, Option.bind_some, Option.map_some, List.length_cons, List.length_nil, vcM, List.getElem?_toArray, List.getElem?_cons_zero, List.getElem?_cons_succ]) | skip
  (refine W_at c4_ok ?_; refine ⟨_, rfl, ?_⟩; simp (disch := first | omega | assumption | rfl | (simp only [vcS] <;> omega) | fail) only [↓ptV_l, ↓vcA, vcB, ↓vcD, vcE, ↓reduceIte, Nat.reduceEqDiff, Nat.reduceAdd, Nat.reduceMul, Nat.reduceLeDiff, Int.reduceLE, Int.reduceLT, Int.reduceEq, Int.reduceToNat, Int.reduceAdd, Int.reduceSub, Int.reduceMul, Int.reduceNeg, reduceCtorEq, Option.bind_some, Option.map_some, List.length_cons, List.length_nil, vcM, List.getElem?_toArray, List.getElem?_cons_zero, List.getElem?_cons_succ])
  (refine W_at c4_ok ?_; refine ⟨_, rfl, ?_⟩; simp (disch := first | omega | assumption | rfl | (simp only [vcS] <;> omega) | fail) only [↓ptV_l, ↓vcA, vcB, ↓vcD, vcE, ↓reduceIte, Nat.reduceEqDiff, Nat.reduceAdd, Nat.reduceMul, Nat.reduceLeDiff, Int.reduceLE, Int.reduceLT, Int.reduceEq, Int.reduceToNat, Int.reduceAdd, Int.reduceSub, Int.reduceMul, Int.reduceNeg, reduceCtorEq, Option.bind_some, Option.map_some, List.length_cons, List.length_nil, vcM, List.getElem?_toArray, List.getElem?_cons_zero, List.getElem?_cons_succ])
  refine callV_ret (new_ok w1 12) ?_
  rintro _ w2 ⟨p, r, rfl, hD2, hE2, hp2, hr2⟩
  first | (simp (disch := first | omega | assumption | rfl | (simp only [vcS] <;> omega) | fail) only [↓ptV_l, ↓vcA, vcB, ↓vcD, vcE, ↓reduceIte, Nat.reduceEqDiff, Nat.reduceAdd, Nat.reduceMul, Nat.reduceLeDiff, Int.reduceLE, Int.reduceLT, Int.reduceEq, Int.reduceToNat, Int.reduceAdd, Int.reduceSub, Int.reduceMul, Int.reduceNeg, reduceCtorEq, Option.bind_some, Option.map_some, List.length_cons, List.length_nil, vcM, List.getElem?_toArray, List.getElem?_cons_zero, List.getElem?_cons_succ]) | skip
  refine callV_ret (rnew_ok w2 12) ?_
  rintro _ w3 ⟨sv, rfl, hR3, hE3⟩
  have hrv0 : rv sv (.slice none 0 0) (newD 12) = Value.agg (rcell sv (.slice none 0 0) (newD 12)) := rfl
  have s0 : (rcell sv (.slice none 0 0) (newD 12)).size = 4 := rfl
  rw [hrv0]
  simp (disch := first | omega | assumption | rfl | (simp only [vcS] <;> omega) | fail) only [↓ptV_l, ↓vcA, vcB, ↓vcD, vcE, ↓reduceIte, Nat.reduceEqDiff, Nat.reduceAdd, Nat.reduceMul, Nat.reduceLeDiff, Int.reduceLE, Int.reduceLT, Int.reduceEq, Int.reduceToNat, Int.reduceAdd, Int.reduceSub, Int.reduceMul, Int.reduceNeg, reduceCtorEq, Option.bind_some, Option.map_some, List.length_cons, List.length_nil, vcM, List.getElem?_toArray, List.getElem?_cons_zero, List.getElem?_cons_succ, hz4, s0]
  refine ⟨rc_flat (w := w) hR3.safe.one rfl, by simp, ?_⟩
  have hb6 : ((w3.alloc (.cells #[.slice none 0 0, .slice none 0 0, .int .i64 0, .bool false] 30)).putN w3.heap.size 0 (rcell sv (.slice none 0 0) (newD 12))).heap[w3.heap.size]? = some (.cells (rcell sv (.slice none 0 0) (newD 12)) 30 (0, 0)) := by
    rw [heap_putN_eq (heap_new _ _ _ rfl), splice_all (by simp [rcell])]
  have hE4 : Ext w3 ((w3.alloc (.cells #[.slice none 0 0, .slice none 0 0, .int .i64 0, .bool false] 30)).putN w3.heap.size 0 (rcell sv (.slice none 0 0) (newD 12))) := ((Keep.refl _ w3).alloc _).putN _ (by intro hh; exfalso; omega)
  generalize World.putN _ _ _ _ = w4 at hb6 hE4 ⊢
  have hp8 : w.heap.size ≤ w3.heap.size := ((hE1.ext hE2).ext hE3).size
  generalize w3.heap.size = p8 at hb6 hp8 ⊢
  have z1 := hE1.size
  have B4 : Both w w4 p r (.slice none 0 0) sv (.slice none 0 0) (newD 12) 0 := ⟨(hD2.ext hE3).ext hE4, hR3.ext hE4, newD_ok 12, by simp [newD], ((hE1.ext hE2).ext hE3).ext hE4, fun g hg => by
    rcases hg with h | h | h
    · omega
    · omega
    · cases h⟩
  clear hD2 hR3
  -- behind the acts
  have rest : ∀ (j : Nat) (wj : World) (qv sv rq : Value) (d : DS) (tl : Env), j ≤ 30 → Both w wj p r qv sv rq d j → d.n = 12 → wj.heap[p8]? = some (.cells (rcell sv rq d) 30 (0, 0)) →
      W Try.prog (Ret fun u w' => u = .bool true ∧ Ext w w') 4 37 ((0, .slice q nn c) :: (1, .int .i64 keep) :: (2, .int .i64 torn) :: (7, .pointer (some ⟨p, 0, none⟩)) :: (8, .pointer (some ⟨p8, 0, none⟩)) :: tl) wj := by
    intro j wj qv sv rq d tl hj B hdn h8
    have g0 : (rcell sv rq d)[0]? = some sv := rfl
    have g1 : (rcell sv rq d)[1]? = some rq := rfl
    have hsc : sv.cells = #[sv] := by obtain ⟨q', c', e, _⟩ := B.doc.safe.is; rw [e]; rfl
    have hrc : (#[sv] ++ (zc [(1, Value.slice none 0 0)] ++ (#[Value.int .i64 (-1)] ++ zc [(1, Value.bool false)])) : Array Value) = rcell sv (.slice none 0 0) (safeD d) := rfl
    have s4 : (rcell sv (.slice none 0 0) (safeD d)).size = 4 := rfl
    (refine W_at c4_ok ?_; refine ⟨_, rfl, ?_⟩; simp (disch := first | omega | assumption | rfl | (simp only [vcS] <;> omega) | fail) only [↓ptV_l, ↓vcA, vcB, ↓vcD, vcE, ↓reduceIte, Nat.reduceEqDiff, Nat.reduceAdd, Nat.reduceMul, Nat.reduceLeDiff, Int.reduceLE, Int.reduceLT, Int.reduceEq, Int.reduceToNat, Int.reduceAdd, Int.reduceSub, Int.reduceMul, Int.reduceNeg, reduceCtorEq, Option.bind_some, Option.map_some, List.length_cons, List.length_nil, vcM, List.getElem?_toArray, List.getElem?_cons_zero, List.getElem?_cons_succ, h8, g0, hsc, hrc, s4, hz4])
    refine ⟨rc_flat (w := w) B.doc.safe.one rfl, by simp, ?_⟩
    have h10 : ((wj.alloc (.cells #[.slice none 0 0, .slice none 0 0, .int .i64 0, .bool false] 30)).putN wj.heap.size 0 (rcell sv (.slice none 0 0) (safeD d))).heap[wj.heap.size]? = some (.cells (rcell sv (.slice none 0 0) (safeD d)) 30 (0, 0)) := by
      rw [heap_putN_eq (heap_new _ _ _ rfl), splice_all (by simp [rcell])]
    have hE10 : Ext wj ((wj.alloc (.cells #[.slice none 0 0, .slice none 0 0, .int .i64 0, .bool false] 30)).putN wj.heap.size 0 (rcell sv (.slice none 0 0) (safeD d))) := ((Keep.refl _ wj).alloc _).putN _ (by intro hh; exfalso; omega)
    generalize World.putN _ _ _ _ = wa at h10 hE10 ⊢
    generalize wj.heap.size = p10 at h10 ⊢
    (refine W_at c4_ok ?_; refine ⟨_, rfl, ?_⟩; simp (disch := first | omega | assumption | rfl | (simp only [vcS] <;> omega) | fail) only [↓ptV_l, ↓vcA, vcB, ↓vcD, vcE, ↓reduceIte, Nat.reduceEqDiff, Nat.reduceAdd, Nat.reduceMul, Nat.reduceLeDiff, Int.reduceLE, Int.reduceLT, Int.reduceEq, Int.reduceToNat, Int.reduceAdd, Int.reduceSub, Int.reduceMul, Int.reduceNeg, reduceCtorEq, Option.bind_some, Option.map_some, List.length_cons, List.length_nil, vcM, List.getElem?_toArray, List.getElem?_cons_zero, List.getElem?_cons_succ])
    have hEb : Ext wa (wa.alloc (.cells (zc [(12, .int .i64 0)]) 39)) := (Keep.refl _ wa).alloc _
    generalize World.alloc _ _ = wb at hEb ⊢
    have Bb := (B.ext hE10).ext hEb
    have h10b := hEb.at h10 (fun h => h)
    have h8b := (hE10.ext hEb).at h8 (fun h => h)
    (refine W_at c4_ok ?_; refine ⟨_, rfl, ?_⟩; simp (disch := first | omega | assumption | rfl | (simp only [vcS] <;> omega) | fail) only [↓ptV_l, ↓vcA, vcB, ↓vcD, vcE, ↓reduceIte, Nat.reduceEqDiff, Nat.reduceAdd, Nat.reduceMul, Nat.reduceLeDiff, Int.reduceLE, Int.reduceLT, Int.reduceEq, Int.reduceToNat, Int.reduceAdd, Int.reduceSub, Int.reduceMul, Int.reduceNeg, reduceCtorEq, Option.bind_some, Option.map_some, List.length_cons, List.length_nil, vcM, List.getElem?_toArray, List.getElem?_cons_zero, List.getElem?_cons_succ])
    refine callV_ret (crash_ok wb p r qv d keep torn Bb.disk Bb.ok) ?_
    rintro _ wc ⟨qvc, hDc, hKc, hNc⟩
    first | (simp (disch := first | omega | assumption | rfl | (simp only [vcS] <;> omega) | fail) only [↓ptV_l, ↓vcA, vcB, ↓vcD, vcE, ↓reduceIte, Nat.reduceEqDiff, Nat.reduceAdd, Nat.reduceMul, Nat.reduceLeDiff, Int.reduceLE, Int.reduceLT, Int.reduceEq, Int.reduceToNat, Int.reduceAdd, Int.reduceSub, Int.reduceMul, Int.reduceNeg, reduceCtorEq, Option.bind_some, Option.map_some, List.length_cons, List.length_nil, vcM, List.getElem?_toArray, List.getElem?_cons_zero, List.getElem?_cons_succ]) | skip
    have hokc := crashD_ok Bb.ok keep torn
    have hcn : (crashD d keep torn).n = 12 := hdn
    have hcq : (crashD d keep torn).queue = [] := rfl
    have hcd : (crashD d keep torn).dead = false := rfl
    have hhit : ∀ i, hit d ((crashD d keep torn).safe i) i d.queue.length := fun i => crash_hit Bb.ok keep torn i
    have hokd := Bb.ok
    generalize crashD d keep torn = dC at hDc hokc hcn hcq hcd hhit
    have hRc : RD wc sv rq d := Bb.doc.dk (w0 := w) Bb.disk hKc
    have h10c := hKc.at h10b (Both_box_ne Bb.disk h10b)
    have h8c := hKc.at h8b (Both_box_ne Bb.disk h8b)
    have hEc : Ext w wc := Bb.grown.trans hKc fun i hi hs => by have := Bb.base i hs; omega
    have hRs : RD wc sv (.slice none 0 0) (safeD d) := ⟨hRc.safe, OwnO.nil _ _ _ _⟩
    clear Bb B hKc hE10 hEb
    have hlq := hRc.queue.len
    rw [qlen] at hlq
    have hqlen := hokd.len
    have hx4 : (rcell sv (.slice none 0 0) (safeD d)).extract 0 (0 + 4) = rcell sv (.slice none 0 0) (safeD d) := rfl
    have hrvs : Value.agg (rcell sv (.slice none 0 0) (safeD d)) = rv sv (.slice none 0 0) (safeD d) := rfl
    -- the sectors
    have L2 : ∀ (k i : Nat) (wi : World), k + i = 12 → Ext wc wi → W Try.prog (Ret fun u w' => u = .bool true ∧ Ext w w') 4 33 [(7, .pointer (some ⟨p, 0, none⟩)), (8, .pointer (some ⟨p8, 0, none⟩)), (10, .pointer (some ⟨p10, 0, none⟩)), (52, .int .i64 (i : Nat))] wi := by
      intro k
      induction k with
      | zero =>
        intro i wi hi hEi
        have c1 : ¬ ((i : Nat) : Int) < 12 := by omega
        (refine W_at c4_ok ?_; refine ⟨_, rfl, ?_⟩; simp (disch := first | omega | assumption | rfl | (simp only [vcS] <;> omega) | fail) only [↓ptV_l, ↓vcA, vcB, ↓vcD, vcE, ↓reduceIte, Nat.reduceEqDiff, Nat.reduceAdd, Nat.reduceMul, Nat.reduceLeDiff, Int.reduceLE, Int.reduceLT, Int.reduceEq, Int.reduceToNat, Int.reduceAdd, Int.reduceSub, Int.reduceMul, Int.reduceNeg, reduceCtorEq, Option.bind_some, Option.map_some, List.length_cons, List.length_nil, vcM, List.getElem?_toArray, List.getElem?_cons_zero, List.getElem?_cons_succ, c1])
        (refine W_at c4_ok ?_; refine ⟨_, rfl, ?_⟩; simp (disch := first | omega | assumption | rfl | (simp only [vcS] <;> omega) | fail) only [↓ptV_l, ↓vcA, vcB, ↓vcD, vcE, ↓reduceIte, Nat.reduceEqDiff, Nat.reduceAdd, Nat.reduceMul, Nat.reduceLeDiff, Int.reduceLE, Int.reduceLT, Int.reduceEq, Int.reduceToNat, Int.reduceAdd, Int.reduceSub, Int.reduceMul, Int.reduceNeg, reduceCtorEq, Option.bind_some, Option.map_some, List.length_cons, List.length_nil, vcM, List.getElem?_toArray, List.getElem?_cons_zero, List.getElem?_cons_succ])
        (refine W_at c4_ok ?_; refine ⟨_, rfl, ?_⟩; simp (disch := first | omega | assumption | rfl | (simp only [vcS] <;> omega) | fail) only [↓vcL1, ptS2_eq, ↓vcA, vcB, ↓vcD, vcE, ↓reduceIte, Nat.reduceEqDiff, Nat.reduceAdd, Nat.reduceMul, Nat.reduceLeDiff, Int.reduceLE, Int.reduceLT, Int.reduceEq, Int.reduceToNat, Int.reduceAdd, Int.reduceSub, Int.reduceMul, Int.reduceNeg, reduceCtorEq, Option.bind_some, Option.map_some, List.length_cons, List.length_nil, vcM, List.getElem?_toArray, List.getElem?_cons_zero, List.getElem?_cons_succ])
        refine callV_ret (pending_ok wi p r qvc dC (hDc.ext hEi)) ?_
        rintro _ wq ⟨rfl, hw⟩
        obtain rfl : wi = wq := hw.symm
        rw [hcq]
        simp (disch := first | omega | assumption | rfl | (simp only [vcS] <;> omega) | fail) only [↓vcL2, ptS1_eq, ↓vcA, vcB, ↓vcD, vcE, ↓reduceIte, Nat.reduceEqDiff, Nat.reduceAdd, Nat.reduceMul, Nat.reduceLeDiff, Int.reduceLE, Int.reduceLT, Int.reduceEq, Int.reduceToNat, Int.reduceAdd, Int.reduceSub, Int.reduceMul, Int.reduceNeg, reduceCtorEq, Option.bind_some, Option.map_some, List.length_cons, List.length_nil, vcM, List.getElem?_toArray, List.getElem?_cons_zero, List.getElem?_cons_succ, List.length_nil, Int.cast_ofNat_Int, eq_self]
        refine callV_ret (dead_ok wi p r qvc dC (hDc.ext hEi)) ?_
        rintro _ wq ⟨rfl, hw⟩
        obtain rfl : wi = wq := hw.symm
        rw [hcd]
        simp (disch := first | omega | assumption | rfl | (simp only [vcS] <;> omega) | fail) only [↓vcL1, ptS2_eq, ↓vcA, vcB, ↓vcD, vcE, ↓reduceIte, Nat.reduceEqDiff, Nat.reduceAdd, Nat.reduceMul, Nat.reduceLeDiff, Int.reduceLE, Int.reduceLT, Int.reduceEq, Int.reduceToNat, Int.reduceAdd, Int.reduceSub, Int.reduceMul, Int.reduceNeg, reduceCtorEq, Option.bind_some, Option.map_some, List.length_cons, List.length_nil, vcM, List.getElem?_toArray, List.getElem?_cons_zero, List.getElem?_cons_succ]
        (refine W_at c4_ok ?_; refine ⟨_, rfl, ?_⟩; simp (disch := first | omega | assumption | rfl | (simp only [vcS] <;> omega) | fail) only [↓ptV_l, ↓vcA, vcB, ↓vcD, vcE, ↓reduceIte, Nat.reduceEqDiff, Nat.reduceAdd, Nat.reduceMul, Nat.reduceLeDiff, Int.reduceLE, Int.reduceLT, Int.reduceEq, Int.reduceToNat, Int.reduceAdd, Int.reduceSub, Int.reduceMul, Int.reduceNeg, reduceCtorEq, Option.bind_some, Option.map_some, List.length_cons, List.length_nil, vcM, List.getElem?_toArray, List.getElem?_cons_zero, List.getElem?_cons_succ, Ret_returned])
        exact hEc.ext hEi
      | succ k ih =>
        intro i wi hi hEi
        have c1 : ((i : Nat) : Int) < 12 := by omega
        have hwi : IntKind.i64.wrap (((i : Nat) : Int) + 1) = ((i + 1 : Nat) : Int) := wrap_i64 (by omega) (by omega)
        obtain ⟨e1, e2⟩ := read_clean hcq hcd (i := i) (by rw [thereB_iff, hcn]; omega)
        obtain ⟨e3, e4⟩ := read_clean (d := safeD d) rfl rfl (i := i) (by rw [thereB_iff]; show _ ∧ ((i : Nat) : Int) < (d.n : Nat); omega)
        have e4' : readB (safeD d) (i : Nat) = d.safe (i : Nat) := e4
        (refine W_at c4_ok ?_; refine ⟨_, rfl, ?_⟩; simp (disch := first | omega | assumption | rfl | (simp only [vcS] <;> omega) | fail) only [↓ptV_l, ↓vcA, vcB, ↓vcD, vcE, ↓reduceIte, Nat.reduceEqDiff, Nat.reduceAdd, Nat.reduceMul, Nat.reduceLeDiff, Int.reduceLE, Int.reduceLT, Int.reduceEq, Int.reduceToNat, Int.reduceAdd, Int.reduceSub, Int.reduceMul, Int.reduceNeg, reduceCtorEq, Option.bind_some, Option.map_some, List.length_cons, List.length_nil, vcM, List.getElem?_toArray, List.getElem?_cons_zero, List.getElem?_cons_succ, c1])
        (refine W_at c4_ok ?_; refine ⟨_, rfl, ?_⟩; simp (disch := first | omega | assumption | rfl | (simp only [vcS] <;> omega) | fail) only [↓ptV_l, ↓vcA, vcB, ↓vcD, vcE, ↓reduceIte, Nat.reduceEqDiff, Nat.reduceAdd, Nat.reduceMul, Nat.reduceLeDiff, Int.reduceLE, Int.reduceLT, Int.reduceEq, Int.reduceToNat, Int.reduceAdd, Int.reduceSub, Int.reduceMul, Int.reduceNeg, reduceCtorEq, Option.bind_some, Option.map_some, List.length_cons, List.length_nil, vcM, List.getElem?_toArray, List.getElem?_cons_zero, List.getElem?_cons_succ])
        (refine W_at c4_ok ?_; refine ⟨_, rfl, ?_⟩; simp (disch := first | omega | assumption | rfl | (simp only [vcS] <;> omega) | fail) only [↓ptV_l, ↓vcA, vcB, ↓vcD, vcE, ↓reduceIte, Nat.reduceEqDiff, Nat.reduceAdd, Nat.reduceMul, Nat.reduceLeDiff, Int.reduceLE, Int.reduceLT, Int.reduceEq, Int.reduceToNat, Int.reduceAdd, Int.reduceSub, Int.reduceMul, Int.reduceNeg, reduceCtorEq, Option.bind_some, Option.map_some, List.length_cons, List.length_nil, vcM, List.getElem?_toArray, List.getElem?_cons_zero, List.getElem?_cons_succ])
        (refine W_at c4_ok ?_; refine ⟨_, rfl, ?_⟩; simp (disch := first | omega | assumption | rfl | (simp only [vcS] <;> omega) | fail) only [↓ptV_l, ↓vcA, vcB, ↓vcD, vcE, ↓reduceIte, Nat.reduceEqDiff, Nat.reduceAdd, Nat.reduceMul, Nat.reduceLeDiff, Int.reduceLE, Int.reduceLT, Int.reduceEq, Int.reduceToNat, Int.reduceAdd, Int.reduceSub, Int.reduceMul, Int.reduceNeg, reduceCtorEq, Option.bind_some, Option.map_some, List.length_cons, List.length_nil, vcM, List.getElem?_toArray, List.getElem?_cons_zero, List.getElem?_cons_succ])
        refine callV_ret (read_ok wi p r qvc dC i (hDc.ext hEi) hokc) ?_
        rintro _ wd ⟨v, rfl, hN1⟩
        rw [e1]
        rw [e2] at hN1
        have hh := hhit i
        have hB64 := hokc.safe i
        generalize dC.safe (i : Nat) = B at hN1 hh hB64
        first | (simp (disch := first | omega | assumption | rfl | (simp only [vcS] <;> omega) | fail) only [↓ptV_l, ↓vcA, vcB, ↓vcD, vcE, ↓reduceIte, Nat.reduceEqDiff, Nat.reduceAdd, Nat.reduceMul, Nat.reduceLeDiff, Int.reduceLE, Int.reduceLT, Int.reduceEq, Int.reduceToNat, Int.reduceAdd, Int.reduceSub, Int.reduceMul, Int.reduceNeg, reduceCtorEq, Option.bind_some, Option.map_some, List.length_cons, List.length_nil, vcM, List.getElem?_toArray, List.getElem?_cons_zero, List.getElem?_cons_succ]) | skip
        (refine W_at c4_ok ?_; refine ⟨_, rfl, ?_⟩; simp (disch := first | omega | assumption | rfl | (simp only [vcS] <;> omega) | fail) only [↓ptV_l, ↓vcA, vcB, ↓vcD, vcE, ↓reduceIte, Nat.reduceEqDiff, Nat.reduceAdd, Nat.reduceMul, Nat.reduceLeDiff, Int.reduceLE, Int.reduceLT, Int.reduceEq, Int.reduceToNat, Int.reduceAdd, Int.reduceSub, Int.reduceMul, Int.reduceNeg, reduceCtorEq, Option.bind_some, Option.map_some, List.length_cons, List.length_nil, vcM, List.getElem?_toArray, List.getElem?_cons_zero, List.getElem?_cons_succ, eq_self])
        (refine W_at c4_ok ?_; refine ⟨_, rfl, ?_⟩; simp (disch := first | omega | assumption | rfl | (simp only [vcS] <;> omega) | fail) only [↓ptV_l, ↓vcA, vcB, ↓vcD, vcE, ↓reduceIte, Nat.reduceEqDiff, Nat.reduceAdd, Nat.reduceMul, Nat.reduceLeDiff, Int.reduceLE, Int.reduceLT, Int.reduceEq, Int.reduceToNat, Int.reduceAdd, Int.reduceSub, Int.reduceMul, Int.reduceNeg, reduceCtorEq, Option.bind_some, Option.map_some, List.length_cons, List.length_nil, vcM, List.getElem?_toArray, List.getElem?_cons_zero, List.getElem?_cons_succ])
        have hEcd := hEi.ext hN1.ext
        have h10d := hEcd.at h10c (fun h => h)
        (refine W_at c4_ok ?_; refine ⟨_, rfl, ?_⟩; simp (disch := first | omega | assumption | rfl | (simp only [vcS] <;> omega) | fail) only [↓ptV_l, ↓vcA, vcB, ↓vcD, vcE, ↓reduceIte, Nat.reduceEqDiff, Nat.reduceAdd, Nat.reduceMul, Nat.reduceLeDiff, Int.reduceLE, Int.reduceLT, Int.reduceEq, Int.reduceToNat, Int.reduceAdd, Int.reduceSub, Int.reduceMul, Int.reduceNeg, reduceCtorEq, Option.bind_some, Option.map_some, List.length_cons, List.length_nil, vcM, List.getElem?_toArray, List.getElem?_cons_zero, List.getElem?_cons_succ, h10d, hx4, hrvs])
        refine callV_ret (rread_ok wd sv _ (safeD d) i (hRs.ext hEcd) (safeD_ok hokd)) ?_
        rintro _ we ⟨old, rfl, hN2⟩
        rw [e4'] at hN2
        have hEce := hEcd.ext hN2.ext
        first | (simp (disch := first | omega | assumption | rfl | (simp only [vcS] <;> omega) | fail) only [↓ptV_l, ↓vcA, vcB, ↓vcD, vcE, ↓reduceIte, Nat.reduceEqDiff, Nat.reduceAdd, Nat.reduceMul, Nat.reduceLeDiff, Int.reduceLE, Int.reduceLT, Int.reduceEq, Int.reduceToNat, Int.reduceAdd, Int.reduceSub, Int.reduceMul, Int.reduceNeg, reduceCtorEq, Option.bind_some, Option.map_some, List.length_cons, List.length_nil, vcM, List.getElem?_toArray, List.getElem?_cons_zero, List.getElem?_cons_succ]) | skip
        (refine W_at c4_ok ?_; refine ⟨_, rfl, ?_⟩; simp (disch := first | omega | assumption | rfl | (simp only [vcS] <;> omega) | fail) only [↓ptV_l, ↓vcA, vcB, ↓vcD, vcE, ↓reduceIte, Nat.reduceEqDiff, Nat.reduceAdd, Nat.reduceMul, Nat.reduceLeDiff, Int.reduceLE, Int.reduceLT, Int.reduceEq, Int.reduceToNat, Int.reduceAdd, Int.reduceSub, Int.reduceMul, Int.reduceNeg, reduceCtorEq, Option.bind_some, Option.map_some, List.length_cons, List.length_nil, vcM, List.getElem?_toArray, List.getElem?_cons_zero, List.getElem?_cons_succ])
        have hv1 := (hN1.own.ext hN2.ext).rd
        refine callV_ret (equal_ok we v old _ _ hv1 hN2.own.rd hB64.2 (hokd.safe i).2) ?_
        rintro _ wq ⟨rfl, hw⟩
        obtain rfl : we = wq := hw.symm
        first | (simp (disch := first | omega | assumption | rfl | (simp only [vcS] <;> omega) | fail) only [↓ptV_l, ↓vcA, vcB, ↓vcD, vcE, ↓reduceIte, Nat.reduceEqDiff, Nat.reduceAdd, Nat.reduceMul, Nat.reduceLeDiff, Int.reduceLE, Int.reduceLT, Int.reduceEq, Int.reduceToNat, Int.reduceAdd, Int.reduceSub, Int.reduceMul, Int.reduceNeg, reduceCtorEq, Option.bind_some, Option.map_some, List.length_cons, List.length_nil, vcM, List.getElem?_toArray, List.getElem?_cons_zero, List.getElem?_cons_succ]) | skip
        have h8e := hEce.at h8c (fun h => h)
        have g1 : (rcell sv rq d)[1]? = some rq := rfl
        (refine W_at c4_ok ?_; refine ⟨_, rfl, ?_⟩; simp (disch := first | omega | assumption | rfl | (simp only [vcS] <;> omega) | fail) only [↓ptV_l, ↓vcA, vcB, ↓vcD, vcE, ↓reduceIte, Nat.reduceEqDiff, Nat.reduceAdd, Nat.reduceMul, Nat.reduceLeDiff, Int.reduceLE, Int.reduceLT, Int.reduceEq, Int.reduceToNat, Int.reduceAdd, Int.reduceSub, Int.reduceMul, Int.reduceNeg, reduceCtorEq, Option.bind_some, Option.map_some, List.length_cons, List.length_nil, vcM, List.getElem?_toArray, List.getElem?_cons_zero, List.getElem?_cons_succ, h8e, g1, hlq])
        have hfound : hit d B i 0 → decide (B = d.safe (i : Nat)) = true := fun h => by
          rcases h with h | ⟨j, h1, h2, _⟩
          · exact decide_eq_true h
          · omega
        generalize decide (B = d.safe (i : Nat)) = fb at hfound ⊢
        -- the writes
        have L3 : ∀ (k j : Nat) (wz : World) (old : Value) (fb : Bool), k + j = d.queue.length → Ext we wz → Rd wz old (settleF d.safe (d.queue.take j) i) → (hit d B i j → fb = true) →
            W Try.prog (Ret fun u w' => u = .bool true ∧ Ext w w') 4 22 [(7, .pointer (some ⟨p, 0, none⟩)), (8, .pointer (some ⟨p8, 0, none⟩)), (10, .pointer (some ⟨p10, 0, none⟩)), (12, .int .i64 (i : Nat)), (13, v), (15, old), (17, .bool fb), (52, .int .i64 (i : Nat)), (73, rq), (74, .int .i64 (d.queue.length : Nat)), (75, .int .i64 (j : Nat))] wz := by
          intro k
          induction k with
          | zero =>
            intro j wz old fb hj hEz hold hfb
            obtain rfl : j = d.queue.length := by omega
            have c2 : ¬ ((d.queue.length : Nat) : Int) < (d.queue.length : Nat) := by omega
            obtain rfl : fb = true := hfb hh
            (refine W_at c4_ok ?_; refine ⟨_, rfl, ?_⟩; simp (disch := first | omega | assumption | rfl | (simp only [vcS] <;> omega) | fail) only [↓ptV_l, ↓vcA, vcB, ↓vcD, vcE, ↓reduceIte, Nat.reduceEqDiff, Nat.reduceAdd, Nat.reduceMul, Nat.reduceLeDiff, Int.reduceLE, Int.reduceLT, Int.reduceEq, Int.reduceToNat, Int.reduceAdd, Int.reduceSub, Int.reduceMul, Int.reduceNeg, reduceCtorEq, Option.bind_some, Option.map_some, List.length_cons, List.length_nil, vcM, List.getElem?_toArray, List.getElem?_cons_zero, List.getElem?_cons_succ, c2])
            (refine W_at c4_ok ?_; refine ⟨_, rfl, ?_⟩; simp (disch := first | omega | assumption | rfl | (simp only [vcS] <;> omega) | fail) only [↓ptV_l, ↓vcA, vcB, ↓vcD, vcE, ↓reduceIte, Nat.reduceEqDiff, Nat.reduceAdd, Nat.reduceMul, Nat.reduceLeDiff, Int.reduceLE, Int.reduceLT, Int.reduceEq, Int.reduceToNat, Int.reduceAdd, Int.reduceSub, Int.reduceMul, Int.reduceNeg, reduceCtorEq, Option.bind_some, Option.map_some, List.length_cons, List.length_nil, vcM, List.getElem?_toArray, List.getElem?_cons_zero, List.getElem?_cons_succ])
            (refine W_at c4_ok ?_; refine ⟨_, rfl, ?_⟩; simp (disch := first | omega | assumption | rfl | (simp only [vcS] <;> omega) | fail) only [↓ptV_l, ↓vcA, vcB, ↓vcD, vcE, ↓reduceIte, Nat.reduceEqDiff, Nat.reduceAdd, Nat.reduceMul, Nat.reduceLeDiff, Int.reduceLE, Int.reduceLT, Int.reduceEq, Int.reduceToNat, Int.reduceAdd, Int.reduceSub, Int.reduceMul, Int.reduceNeg, reduceCtorEq, Option.bind_some, Option.map_some, List.length_cons, List.length_nil, vcM, List.getElem?_toArray, List.getElem?_cons_zero, List.getElem?_cons_succ])
            (refine W_at c4_ok ?_; refine ⟨_, rfl, ?_⟩; simp (disch := first | omega | assumption | rfl | (simp only [vcS] <;> omega) | fail) only [↓ptV_l, ↓vcA, vcB, ↓vcD, vcE, ↓reduceIte, Nat.reduceEqDiff, Nat.reduceAdd, Nat.reduceMul, Nat.reduceLeDiff, Int.reduceLE, Int.reduceLT, Int.reduceEq, Int.reduceToNat, Int.reduceAdd, Int.reduceSub, Int.reduceMul, Int.reduceNeg, reduceCtorEq, Option.bind_some, Option.map_some, List.length_cons, List.length_nil, vcM, List.getElem?_toArray, List.getElem?_cons_zero, List.getElem?_cons_succ])
            (refine W_at c4_ok ?_; refine ⟨_, rfl, ?_⟩; simp (disch := first | omega | assumption | rfl | (simp only [vcS] <;> omega) | fail) only [↓ptV_l, ↓vcA, vcB, ↓vcD, vcE, ↓reduceIte, Nat.reduceEqDiff, Nat.reduceAdd, Nat.reduceMul, Nat.reduceLeDiff, Int.reduceLE, Int.reduceLT, Int.reduceEq, Int.reduceToNat, Int.reduceAdd, Int.reduceSub, Int.reduceMul, Int.reduceNeg, reduceCtorEq, Option.bind_some, Option.map_some, List.length_cons, List.length_nil, vcM, List.getElem?_toArray, List.getElem?_cons_zero, List.getElem?_cons_succ, hwi])
            (refine W_at c4_ok ?_; refine ⟨_, rfl, ?_⟩; simp (disch := first | omega | assumption | rfl | (simp only [vcS] <;> omega) | fail) only [↓ptV_l, ↓vcA, vcB, ↓vcD, vcE, ↓reduceIte, Nat.reduceEqDiff, Nat.reduceAdd, Nat.reduceMul, Nat.reduceLeDiff, Int.reduceLE, Int.reduceLT, Int.reduceEq, Int.reduceToNat, Int.reduceAdd, Int.reduceSub, Int.reduceMul, Int.reduceNeg, reduceCtorEq, Option.bind_some, Option.map_some, List.length_cons, List.length_nil, vcM, List.getElem?_toArray, List.getElem?_cons_zero, List.getElem?_cons_succ])
            exact ih (i + 1) wz (by omega) (hEce.ext hEz)
          | succ k ih3 =>
            intro j wz old fb hj hEz hold hfb
            have c2 : ((j : Nat) : Int) < (d.queue.length : Nat) := by omega
            have c3 : 0 ≤ ((j : Nat) : Int) ∧ ((j : Nat) : Int) < (d.queue.length : Nat) := by omega
            have hwj : IntKind.i64.wrap (((j : Nat) : Int) + 1) = ((j + 1 : Nat) : Int) := wrap_i64 (by omega) (by omega)
            have hjl : j < d.queue.length := by omega
            obtain ⟨g', o', cap', cur', hqe, hg', hrd'⟩ := (hRc.queue.ext (hEce.ext hEz)).at (j := j) (by rw [qlen]; exact hjl)
            rw [List.getElem_map] at hrd'
            rw [qlen] at hqe
            have hx := hokd.queue _ (List.getElem_mem hjl)
            have h65 := wcell_size hx.1.1
            have hz65 : (zc [(1, Value.int .i64 0), (64, Value.int .u8 0)]).size = 65 := rfl
            subst hqe
            (refine W_at c4_ok ?_; refine ⟨_, rfl, ?_⟩; simp (disch := first | omega | assumption | rfl | (simp only [vcS] <;> omega) | fail) only [↓ptV_l, ↓vcA, vcB, ↓vcD, vcE, ↓reduceIte, Nat.reduceEqDiff, Nat.reduceAdd, Nat.reduceMul, Nat.reduceLeDiff, Int.reduceLE, Int.reduceLT, Int.reduceEq, Int.reduceToNat, Int.reduceAdd, Int.reduceSub, Int.reduceMul, Int.reduceNeg, reduceCtorEq, Option.bind_some, Option.map_some, List.length_cons, List.length_nil, vcM, List.getElem?_toArray, List.getElem?_cons_zero, List.getElem?_cons_succ, c2])
            (refine W_at c4_ok ?_; refine ⟨_, rfl, ?_⟩; simp (disch := first | omega | assumption | rfl | (simp only [vcS] <;> omega) | fail) only [↓ptV_l, ↓vcA, vcB, ↓vcD, vcE, ↓reduceIte, Nat.reduceEqDiff, Nat.reduceAdd, Nat.reduceMul, Nat.reduceLeDiff, Int.reduceLE, Int.reduceLT, Int.reduceEq, Int.reduceToNat, Int.reduceAdd, Int.reduceSub, Int.reduceMul, Int.reduceNeg, reduceCtorEq, Option.bind_some, Option.map_some, List.length_cons, List.length_nil, vcM, List.getElem?_toArray, List.getElem?_cons_zero, List.getElem?_cons_succ])
            (refine W_at c4_ok ?_; refine ⟨_, rfl, ?_⟩; simp (disch := first | omega | assumption | rfl | (simp only [vcS] <;> omega) | fail) only [↓ptV_l, ↓vcA, vcB, ↓vcD, vcE, ↓reduceIte, Nat.reduceEqDiff, Nat.reduceAdd, Nat.reduceMul, Nat.reduceLeDiff, Int.reduceLE, Int.reduceLT, Int.reduceEq, Int.reduceToNat, Int.reduceAdd, Int.reduceSub, Int.reduceMul, Int.reduceNeg, reduceCtorEq, Option.bind_some, Option.map_some, List.length_cons, List.length_nil, vcM, List.getElem?_toArray, List.getElem?_cons_zero, List.getElem?_cons_succ, c3, Int.toNat_natCast, hrd', h65])
            refine ⟨wcell_flat _, ?_⟩
            have hb19 : ((wz.alloc (.cells (zc [(1, .int .i64 0), (64, .int .u8 0)]) 49)).putN wz.heap.size 0 (wcell d.queue[j])).heap[wz.heap.size]? = some (.cells (wcell d.queue[j]) 49 (0, 0)) := by
              rw [heap_putN_eq (heap_new _ _ _ rfl), splice_all (by rw [hz65, h65])]
            have hE19 : Ext wz ((wz.alloc (.cells (zc [(1, .int .i64 0), (64, .int .u8 0)]) 49)).putN wz.heap.size 0 (wcell d.queue[j])) := ((Keep.refl _ wz).alloc _).putN _ (by intro hh; exfalso; omega)
            generalize World.putN _ _ _ _ = wy at hb19 hE19 ⊢
            generalize wz.heap.size = p19 at hb19 ⊢
            have ha0 : (wcell d.queue[j])[0]? = some (.int .i64 d.queue[j].1) := rfl
            have hstep := settleF_succ d.safe d.queue hjl
            have hsj := settleF_ok (l := d.queue.take j) hokd.safe (fun x hx => (hokd.queue x (List.mem_of_mem_take hx)).1) i
            have hEy := hEz.ext hE19
            have holdy := hold.ext hE19
            by_cases hi' : d.queue[j].1 = ((i : Nat) : Int)
            · have hdi : decide (d.queue[j].1 = ((i : Nat) : Int)) = true := decide_eq_true hi'
              have hsn : settleF d.safe (d.queue.take (j + 1)) (i : Nat) = d.queue[j].2 := by rw [hstep]; unfold setS; rw [if_pos hi'.symm]
              obtain ⟨⟨qo, co, hoe, hco⟩, _, _⟩ := id holdy
              rw [hsj.1] at hoe hco
              subst hoe
              generalize hS : settleF d.safe (d.queue.take j) (i : Nat) = S at hsj holdy hold
              have hN0 : Rd wy v B := (hN1.own.ext (hN2.ext.ext hEy)).rd
              have hBb := hB64.2
              have done4 : ∀ (wy' : World) (fb' : Bool) (k : Int), Ext wy wy' → (hit d B i (j + 1) → fb' = true) →
                  W Try.prog (Ret fun u w' => u = .bool true ∧ Ext w w') 4 11 [(7, .pointer (some ⟨p, 0, none⟩)), (8, .pointer (some ⟨p8, 0, none⟩)), (10, .pointer (some ⟨p10, 0, none⟩)), (12, .int .i64 (i : Nat)), (13, v), (15, .slice qo 64 co), (17, .bool fb'), (19, .pointer (some ⟨p19, 0, none⟩)), (20, .int .i64 k), (52, .int .i64 (i : Nat)), (73, .slice (some ⟨g', o', none⟩) d.queue.length cap'), (74, .int .i64 (d.queue.length : Nat)), (75, .int .i64 (j : Nat)), (88, .bool false)] wy' := by
                intro wy' fb' k hEy' hf
                have h19 := hEy'.at hb19 (fun h => h)
                (refine W_at c4_ok ?_; refine ⟨_, rfl, ?_⟩; simp (disch := first | omega | assumption | rfl | (simp only [vcS] <;> omega) | fail) only [↓ptV_l, ↓vcA, vcB, ↓vcD, vcE, ↓reduceIte, Nat.reduceEqDiff, Nat.reduceAdd, Nat.reduceMul, Nat.reduceLeDiff, Int.reduceLE, Int.reduceLT, Int.reduceEq, Int.reduceToNat, Int.reduceAdd, Int.reduceSub, Int.reduceMul, Int.reduceNeg, reduceCtorEq, Option.bind_some, Option.map_some, List.length_cons, List.length_nil, vcM, List.getElem?_toArray, List.getElem?_cons_zero, List.getElem?_cons_succ, advA_0])
                have hEa : Ext wy' (wy'.alloc (.cells [].toArray 5)) := (Keep.refl _ wy').alloc _
                have hO : Own1 (wy'.alloc (.cells [].toArray 5)) (.slice (some ⟨wy'.heap.size, 0, none⟩) 0 0) [] := own_lit1 (bs := []) (Nat.zero_le _)
                refine appB hO (part_rd (hEa.at h19 (fun h => h)) hx.1.1) (by have := hx.1.1; simp; omega) fun v' w' h1 h2 h3 => ?_
                rw [List.nil_append] at h1
                have hEw : Ext wy' w' := hEa.trans h2 fun g hg e => by
                  have e' : wy'.heap.size = g := Option.some.inj e
                  omega
                first | (simp (disch := first | omega | assumption | rfl | (simp only [vcS] <;> omega) | fail) only [↓ptV_l, ↓vcA, vcB, ↓vcD, vcE, ↓reduceIte, Nat.reduceEqDiff, Nat.reduceAdd, Nat.reduceMul, Nat.reduceLeDiff, Int.reduceLE, Int.reduceLT, Int.reduceEq, Int.reduceToNat, Int.reduceAdd, Int.reduceSub, Int.reduceMul, Int.reduceNeg, reduceCtorEq, Option.bind_some, Option.map_some, List.length_cons, List.length_nil, vcM, List.getElem?_toArray, List.getElem?_cons_zero, List.getElem?_cons_succ]) | skip
                (refine W_at c4_ok ?_; refine ⟨_, rfl, ?_⟩; simp (disch := first | omega | assumption | rfl | (simp only [vcS] <;> omega) | fail) only [↓ptV_l, ↓vcA, vcB, ↓vcD, vcE, ↓reduceIte, Nat.reduceEqDiff, Nat.reduceAdd, Nat.reduceMul, Nat.reduceLeDiff, Int.reduceLE, Int.reduceLT, Int.reduceEq, Int.reduceToNat, Int.reduceAdd, Int.reduceSub, Int.reduceMul, Int.reduceNeg, reduceCtorEq, Option.bind_some, Option.map_some, List.length_cons, List.length_nil, vcM, List.getElem?_toArray, List.getElem?_cons_zero, List.getElem?_cons_succ, hwj])
                (refine W_at c4_ok ?_; refine ⟨_, rfl, ?_⟩; simp (disch := first | omega | assumption | rfl | (simp only [vcS] <;> omega) | fail) only [↓ptV_l, ↓vcA, vcB, ↓vcD, vcE, ↓reduceIte, Nat.reduceEqDiff, Nat.reduceAdd, Nat.reduceMul, Nat.reduceLeDiff, Int.reduceLE, Int.reduceLT, Int.reduceEq, Int.reduceToNat, Int.reduceAdd, Int.reduceSub, Int.reduceMul, Int.reduceNeg, reduceCtorEq, Option.bind_some, Option.map_some, List.length_cons, List.length_nil, vcM, List.getElem?_toArray, List.getElem?_cons_zero, List.getElem?_cons_succ])
                exact ih3 (j + 1) w' v' fb' (by omega) ((hEy.ext hEy').ext hEw) (by rw [hsn]; exact h1.rd) hf
              have L4 : ∀ (m k : Nat) (wy' : World) (fb' : Bool), m + k = 65 → Ext wy wy' → ((hit d B i j ∨ ∃ k', k' < k ∧ B = over d.queue[j].2 S k') → fb' = true) →
                  W Try.prog (Ret fun u w' => u = .bool true ∧ Ext w w') 4 16 [(7, .pointer (some ⟨p, 0, none⟩)), (8, .pointer (some ⟨p8, 0, none⟩)), (10, .pointer (some ⟨p10, 0, none⟩)), (12, .int .i64 (i : Nat)), (13, v), (15, .slice qo 64 co), (17, .bool fb'), (19, .pointer (some ⟨p19, 0, none⟩)), (20, .int .i64 (k : Nat)), (52, .int .i64 (i : Nat)), (73, .slice (some ⟨g', o', none⟩) d.queue.length cap'), (74, .int .i64 (d.queue.length : Nat)), (75, .int .i64 (j : Nat))] wy' := by
                intro m
                induction m with
                | zero =>
                  intro k wy' fb' hk hEy' hf
                  have c4 : ¬ ((k : Nat) : Int) ≤ 64 := by omega
                  (refine W_at c4_ok ?_; refine ⟨_, rfl, ?_⟩; simp (disch := first | omega | assumption | rfl | (simp only [vcS] <;> omega) | fail) only [↓ptV_l, ↓vcA, vcB, ↓vcD, vcE, ↓reduceIte, Nat.reduceEqDiff, Nat.reduceAdd, Nat.reduceMul, Nat.reduceLeDiff, Int.reduceLE, Int.reduceLT, Int.reduceEq, Int.reduceToNat, Int.reduceAdd, Int.reduceSub, Int.reduceMul, Int.reduceNeg, reduceCtorEq, Option.bind_some, Option.map_some, List.length_cons, List.length_nil, vcM, List.getElem?_toArray, List.getElem?_cons_zero, List.getElem?_cons_succ, c4])
                  (refine W_at c4_ok ?_; refine ⟨_, rfl, ?_⟩; simp (disch := first | omega | assumption | rfl | (simp only [vcS] <;> omega) | fail) only [↓ptV_l, ↓vcA, vcB, ↓vcD, vcE, ↓reduceIte, Nat.reduceEqDiff, Nat.reduceAdd, Nat.reduceMul, Nat.reduceLeDiff, Int.reduceLE, Int.reduceLT, Int.reduceEq, Int.reduceToNat, Int.reduceAdd, Int.reduceSub, Int.reduceMul, Int.reduceNeg, reduceCtorEq, Option.bind_some, Option.map_some, List.length_cons, List.length_nil, vcM, List.getElem?_toArray, List.getElem?_cons_zero, List.getElem?_cons_succ])
                  refine done4 wy' fb' _ hEy' fun h => hf ?_
                  rcases hit_succ hjl h with h | ⟨_, k', h1, h2⟩
                  · exact .inl h
                  · rw [hS] at h2
                    exact .inr ⟨k', by omega, h2⟩
                | succ m ih4 =>
                  intro k wy' fb' hk hEy' hf
                  have c4 : ((k : Nat) : Int) ≤ 64 := by omega
                  have hwk : IntKind.i64.wrap (((k : Nat) : Int) + 1) = ((k + 1 : Nat) : Int) := wrap_i64 (by omega) (by omega)
                  cases fb' with
                  | true =>
                    (refine W_at c4_ok ?_; refine ⟨_, rfl, ?_⟩; simp (disch := first | omega | assumption | rfl | (simp only [vcS] <;> omega) | fail) only [↓ptV_l, ↓vcA, vcB, ↓vcD, vcE, ↓reduceIte, Nat.reduceEqDiff, Nat.reduceAdd, Nat.reduceMul, Nat.reduceLeDiff, Int.reduceLE, Int.reduceLT, Int.reduceEq, Int.reduceToNat, Int.reduceAdd, Int.reduceSub, Int.reduceMul, Int.reduceNeg, reduceCtorEq, Option.bind_some, Option.map_some, List.length_cons, List.length_nil, vcM, List.getElem?_toArray, List.getElem?_cons_zero, List.getElem?_cons_succ, c4])
                    (refine W_at c4_ok ?_; refine ⟨_, rfl, ?_⟩; simp (disch := first | omega | assumption | rfl | (simp only [vcS] <;> omega) | fail) only [↓ptV_l, ↓vcA, vcB, ↓vcD, vcE, ↓reduceIte, Nat.reduceEqDiff, Nat.reduceAdd, Nat.reduceMul, Nat.reduceLeDiff, Int.reduceLE, Int.reduceLT, Int.reduceEq, Int.reduceToNat, Int.reduceAdd, Int.reduceSub, Int.reduceMul, Int.reduceNeg, reduceCtorEq, Option.bind_some, Option.map_some, List.length_cons, List.length_nil, vcM, List.getElem?_toArray, List.getElem?_cons_zero, List.getElem?_cons_succ])
                    exact done4 wy' true _ hEy' fun _ => rfl
                  | false =>
                    have c5 : 0 ≤ ((k : Nat) : Int) ∧ ((k : Nat) : Int) ≤ ((64 : Nat) : Int) := by omega
                    have c5' : 0 ≤ ((k : Nat) : Int) ∧ ((k : Nat) : Int) ≤ 64 := by omega
                    have hEd : Ext wy' wy'.drew := (Keep.refl _ wy').drew
                    (refine W_at c4_ok ?_; refine ⟨_, rfl, ?_⟩; simp (disch := first | omega | assumption | rfl | (simp only [vcS] <;> omega) | fail) only [↓ptV_l, ↓vcA, vcB, ↓vcD, vcE, ↓reduceIte, Nat.reduceEqDiff, Nat.reduceAdd, Nat.reduceMul, Nat.reduceLeDiff, Int.reduceLE, Int.reduceLT, Int.reduceEq, Int.reduceToNat, Int.reduceAdd, Int.reduceSub, Int.reduceMul, Int.reduceNeg, reduceCtorEq, Option.bind_some, Option.map_some, List.length_cons, List.length_nil, vcM, List.getElem?_toArray, List.getElem?_cons_zero, List.getElem?_cons_succ, c4])
                    (refine W_at c4_ok ?_; refine ⟨_, rfl, ?_⟩; simp (disch := first | omega | assumption | rfl | (simp only [vcS] <;> omega) | fail) only [↓ptV_l, ↓vcA, vcB, ↓vcD, vcE, ↓reduceIte, Nat.reduceEqDiff, Nat.reduceAdd, Nat.reduceMul, Nat.reduceLeDiff, Int.reduceLE, Int.reduceLT, Int.reduceEq, Int.reduceToNat, Int.reduceAdd, Int.reduceSub, Int.reduceMul, Int.reduceNeg, reduceCtorEq, Option.bind_some, Option.map_some, List.length_cons, List.length_nil, vcM, List.getElem?_toArray, List.getElem?_cons_zero, List.getElem?_cons_succ])
                    (refine W_at c4_ok ?_; refine ⟨_, rfl, ?_⟩; simp (disch := first | omega | assumption | rfl | (simp only [vcS] <;> omega) | fail) only [↓ptV_l, ↓vcA, vcB, ↓vcD, vcE, ↓reduceIte, Nat.reduceEqDiff, Nat.reduceAdd, Nat.reduceMul, Nat.reduceLeDiff, Int.reduceLE, Int.reduceLT, Int.reduceEq, Int.reduceToNat, Int.reduceAdd, Int.reduceSub, Int.reduceMul, Int.reduceNeg, reduceCtorEq, Option.bind_some, Option.map_some, List.length_cons, List.length_nil, vcM, List.getElem?_toArray, List.getElem?_cons_zero, List.getElem?_cons_succ, advA_0, c5, c5', Int.toNat_natCast, Nat.sub_zero])
                    have h19 := hEy'.at hb19 (fun h => h)
                    have hEa : Ext wy' (wy'.drew.alloc (.cells [].toArray 5)) := hEd.alloc _
                    have hO : Own1 (wy'.drew.alloc (.cells [].toArray 5)) (.slice (some ⟨wy'.heap.size, 0, none⟩) 0 0) [] := own_lit1 (w := wy'.drew) (bs := []) (Nat.zero_le _)
                    have hXk : Rd (wy'.drew.alloc (.cells [].toArray 5)) (.slice (some ⟨p19, 1, none⟩) k 64) (d.queue[j].2.take k) := by
                      have h := (part_rd (hEa.at h19 (fun h => h)) hx.1.1).cut (l := 0) (j := k) (by omega) (by omega)
                      rw [List.drop_zero, advA_0] at h
                      exact h
                    have hxl := hx.1.1
                    have hsl := hsj.1
                    refine appB hO hXk (by simp; omega) fun v1 w1 h1 h2 h3 => ?_
                    rw [List.nil_append] at h1
                    have hEw1 : Ext wy' w1 := hEa.trans h2 fun g hg e => by
                      have e' : wy'.heap.size = g := Option.some.inj e
                      omega
                    have hSk : Rd w1 (.slice (advA 1 qo co k) (64 - k) (co - k)) (S.drop k) := by
                      have h := (holdy.ext (hEy'.ext hEw1)).cut (l := k) (j := 64) (by omega) (by omega)
                      rw [List.take_of_length_le (by omega)] at h
                      exact h
                    refine appB h1 hSk (by rw [List.length_take, List.length_drop]; omega) fun v2 w2 m1 m2 m3 => ?_
                    have hEw2 : Ext wy' w2 := hEw1.trans m2 fun g hg e => by
                      rcases h3 g e with h | h
                      · have e' : wy'.heap.size = g := Option.some.inj h
                        omega
                      · rw [size_alloc] at h
                        have : wy'.drew.heap.size = wy'.heap.size := rfl
                        omega
                    refine callV_ret (equal_ok w2 v v2 B (d.queue[j].2.take k ++ S.drop k) (hN0.ext (hEy'.ext hEw2)) m1.rd hBb (byt_app (byt_take hx.1.2 _) (byt_drop hsj.2 _))) ?_
                    rintro _ wq ⟨rfl, hw⟩
                    obtain rfl : w2 = wq := hw.symm
                    first | (simp (disch := first | omega | assumption | rfl | (simp only [vcS] <;> omega) | fail) only [↓ptV_l, ↓vcA, vcB, ↓vcD, vcE, ↓reduceIte, Nat.reduceEqDiff, Nat.reduceAdd, Nat.reduceMul, Nat.reduceLeDiff, Int.reduceLE, Int.reduceLT, Int.reduceEq, Int.reduceToNat, Int.reduceAdd, Int.reduceSub, Int.reduceMul, Int.reduceNeg, reduceCtorEq, Option.bind_some, Option.map_some, List.length_cons, List.length_nil, vcM, List.getElem?_toArray, List.getElem?_cons_zero, List.getElem?_cons_succ]) | skip
                    (refine W_at c4_ok ?_; refine ⟨_, rfl, ?_⟩; simp (disch := first | omega | assumption | rfl | (simp only [vcS] <;> omega) | fail) only [↓ptV_l, ↓vcA, vcB, ↓vcD, vcE, ↓reduceIte, Nat.reduceEqDiff, Nat.reduceAdd, Nat.reduceMul, Nat.reduceLeDiff, Int.reduceLE, Int.reduceLT, Int.reduceEq, Int.reduceToNat, Int.reduceAdd, Int.reduceSub, Int.reduceMul, Int.reduceNeg, reduceCtorEq, Option.bind_some, Option.map_some, List.length_cons, List.length_nil, vcM, List.getElem?_toArray, List.getElem?_cons_zero, List.getElem?_cons_succ, hwk])
                    (refine W_at c4_ok ?_; refine ⟨_, rfl, ?_⟩; simp (disch := first | omega | assumption | rfl | (simp only [vcS] <;> omega) | fail) only [↓ptV_l, ↓vcA, vcB, ↓vcD, vcE, ↓reduceIte, Nat.reduceEqDiff, Nat.reduceAdd, Nat.reduceMul, Nat.reduceLeDiff, Int.reduceLE, Int.reduceLT, Int.reduceEq, Int.reduceToNat, Int.reduceAdd, Int.reduceSub, Int.reduceMul, Int.reduceNeg, reduceCtorEq, Option.bind_some, Option.map_some, List.length_cons, List.length_nil, vcM, List.getElem?_toArray, List.getElem?_cons_zero, List.getElem?_cons_succ])
                    refine ih4 (k + 1) w2 _ (by omega) (hEy'.ext hEw2) fun h => ?_
                    rcases h with h | ⟨k', h4, h5⟩
                    · cases hf (.inl h)
                    · by_cases hkk : k' = k
                      · subst hkk; exact decide_eq_true h5
                      · cases hf (.inr ⟨k', by omega, h5⟩)
              (refine W_at c4_ok ?_; refine ⟨_, rfl, ?_⟩; simp (disch := first | omega | assumption | rfl | (simp only [vcS] <;> omega) | fail) only [↓ptV_l, ↓vcA, vcB, ↓vcD, vcE, ↓reduceIte, Nat.reduceEqDiff, Nat.reduceAdd, Nat.reduceMul, Nat.reduceLeDiff, Int.reduceLE, Int.reduceLT, Int.reduceEq, Int.reduceToNat, Int.reduceAdd, Int.reduceSub, Int.reduceMul, Int.reduceNeg, reduceCtorEq, Option.bind_some, Option.map_some, List.length_cons, List.length_nil, vcM, List.getElem?_toArray, List.getElem?_cons_zero, List.getElem?_cons_succ, hb19, ha0, hdi])
              (refine W_at c4_ok ?_; refine ⟨_, rfl, ?_⟩; simp (disch := first | omega | assumption | rfl | (simp only [vcS] <;> omega) | fail) only [↓ptV_l, ↓vcA, vcB, ↓vcD, vcE, ↓reduceIte, Nat.reduceEqDiff, Nat.reduceAdd, Nat.reduceMul, Nat.reduceLeDiff, Int.reduceLE, Int.reduceLT, Int.reduceEq, Int.reduceToNat, Int.reduceAdd, Int.reduceSub, Int.reduceMul, Int.reduceNeg, reduceCtorEq, Option.bind_some, Option.map_some, List.length_cons, List.length_nil, vcM, List.getElem?_toArray, List.getElem?_cons_zero, List.getElem?_cons_succ])
              (refine W_at c4_ok ?_; refine ⟨_, rfl, ?_⟩; simp (disch := first | omega | assumption | rfl | (simp only [vcS] <;> omega) | fail) only [↓ptV_l, ↓vcA, vcB, ↓vcD, vcE, ↓reduceIte, Nat.reduceEqDiff, Nat.reduceAdd, Nat.reduceMul, Nat.reduceLeDiff, Int.reduceLE, Int.reduceLT, Int.reduceEq, Int.reduceToNat, Int.reduceAdd, Int.reduceSub, Int.reduceMul, Int.reduceNeg, reduceCtorEq, Option.bind_some, Option.map_some, List.length_cons, List.length_nil, vcM, List.getElem?_toArray, List.getElem?_cons_zero, List.getElem?_cons_succ])
              refine L4 65 0 wy fb (by omega) (Keep.refl _ wy) fun h => ?_
              rcases h with h | ⟨k', h4, _⟩
              · exact hfb h
              · omega
            · have hdi : decide (d.queue[j].1 = ((i : Nat) : Int)) = false := decide_eq_false hi'
              (refine W_at c4_ok ?_; refine ⟨_, rfl, ?_⟩; simp (disch := first | omega | assumption | rfl | (simp only [vcS] <;> omega) | fail) only [↓ptV_l, ↓vcA, vcB, ↓vcD, vcE, ↓reduceIte, Nat.reduceEqDiff, Nat.reduceAdd, Nat.reduceMul, Nat.reduceLeDiff, Int.reduceLE, Int.reduceLT, Int.reduceEq, Int.reduceToNat, Int.reduceAdd, Int.reduceSub, Int.reduceMul, Int.reduceNeg, reduceCtorEq, Option.bind_some, Option.map_some, List.length_cons, List.length_nil, vcM, List.getElem?_toArray, List.getElem?_cons_zero, List.getElem?_cons_succ, hb19, ha0, hdi])
              (refine W_at c4_ok ?_; refine ⟨_, rfl, ?_⟩; simp (disch := first | omega | assumption | rfl | (simp only [vcS] <;> omega) | fail) only [↓ptV_l, ↓vcA, vcB, ↓vcD, vcE, ↓reduceIte, Nat.reduceEqDiff, Nat.reduceAdd, Nat.reduceMul, Nat.reduceLeDiff, Int.reduceLE, Int.reduceLT, Int.reduceEq, Int.reduceToNat, Int.reduceAdd, Int.reduceSub, Int.reduceMul, Int.reduceNeg, reduceCtorEq, Option.bind_some, Option.map_some, List.length_cons, List.length_nil, vcM, List.getElem?_toArray, List.getElem?_cons_zero, List.getElem?_cons_succ])
              (refine W_at c4_ok ?_; refine ⟨_, rfl, ?_⟩; simp (disch := first | omega | assumption | rfl | (simp only [vcS] <;> omega) | fail) only [↓ptV_l, ↓vcA, vcB, ↓vcD, vcE, ↓reduceIte, Nat.reduceEqDiff, Nat.reduceAdd, Nat.reduceMul, Nat.reduceLeDiff, Int.reduceLE, Int.reduceLT, Int.reduceEq, Int.reduceToNat, Int.reduceAdd, Int.reduceSub, Int.reduceMul, Int.reduceNeg, reduceCtorEq, Option.bind_some, Option.map_some, List.length_cons, List.length_nil, vcM, List.getElem?_toArray, List.getElem?_cons_zero, List.getElem?_cons_succ, hwj])
              (refine W_at c4_ok ?_; refine ⟨_, rfl, ?_⟩; simp (disch := first | omega | assumption | rfl | (simp only [vcS] <;> omega) | fail) only [↓ptV_l, ↓vcA, vcB, ↓vcD, vcE, ↓reduceIte, Nat.reduceEqDiff, Nat.reduceAdd, Nat.reduceMul, Nat.reduceLeDiff, Int.reduceLE, Int.reduceLT, Int.reduceEq, Int.reduceToNat, Int.reduceAdd, Int.reduceSub, Int.reduceMul, Int.reduceNeg, reduceCtorEq, Option.bind_some, Option.map_some, List.length_cons, List.length_nil, vcM, List.getElem?_toArray, List.getElem?_cons_zero, List.getElem?_cons_succ])
              refine ih3 (j + 1) wy old fb (by omega) hEy ?_ fun h => ?_
              · rw [hstep]; unfold setS; rw [if_neg fun e => hi' e.symm]; exact holdy
              · rcases hit_succ hjl h with h | ⟨h, _⟩
                · exact hfb h
                · exact absurd h hi'
        refine L3 d.queue.length 0 we old fb (by omega) (Keep.refl _ we) hN2.own.rd hfound
    (refine W_at c4_ok ?_; refine ⟨_, rfl, ?_⟩; simp (disch := first | omega | assumption | rfl | (simp only [vcS] <;> omega) | fail) only [↓ptV_l, ↓vcA, vcB, ↓vcD, vcE, ↓reduceIte, Nat.reduceEqDiff, Nat.reduceAdd, Nat.reduceMul, Nat.reduceLeDiff, Int.reduceLE, Int.reduceLT, Int.reduceEq, Int.reduceToNat, Int.reduceAdd, Int.reduceSub, Int.reduceMul, Int.reduceNeg, reduceCtorEq, Option.bind_some, Option.map_some, List.length_cons, List.length_nil, vcM, List.getElem?_toArray, List.getElem?_cons_zero, List.getElem?_cons_succ])
    exact L2 12 0 wc (by omega) (Keep.refl _ wc)
  have L : ∀ (k j : Nat) (wj : World) (qv sv rq : Value) (d : DS), k + j = 30 → Both w wj p r qv sv rq d j → d.n = 12 → wj.heap[p8]? = some (.cells (rcell sv rq d) 30 (0, 0)) →
      W Try.prog (Ret fun u w' => u = .bool true ∧ Ext w w') 4 42 [(0, .slice q nn c), (1, .int .i64 keep), (2, .int .i64 torn), (7, .pointer (some ⟨p, 0, none⟩)), (8, .pointer (some ⟨p8, 0, none⟩)), (9, .int .i64 (j : Nat))] wj := by
    intro k
    induction k with
    | zero =>
      intro j wj qv sv rq d hj B hdn h8
      have c2 : ¬ ((j : Nat) : Int) < 30 := by omega
      by_cases c1 : ((j : Nat) : Int) < (nn : Nat)
      · (refine W_at c4_ok ?_; refine ⟨_, rfl, ?_⟩; simp (disch := first | omega | assumption | rfl | (simp only [vcS] <;> omega) | fail) only [↓ptV_l, ↓vcA, vcB, ↓vcD, vcE, ↓reduceIte, Nat.reduceEqDiff, Nat.reduceAdd, Nat.reduceMul, Nat.reduceLeDiff, Int.reduceLE, Int.reduceLT, Int.reduceEq, Int.reduceToNat, Int.reduceAdd, Int.reduceSub, Int.reduceMul, Int.reduceNeg, reduceCtorEq, Option.bind_some, Option.map_some, List.length_cons, List.length_nil, vcM, List.getElem?_toArray, List.getElem?_cons_zero, List.getElem?_cons_succ, c1, c2])
        (refine W_at c4_ok ?_; refine ⟨_, rfl, ?_⟩; simp (disch := first | omega | assumption | rfl | (simp only [vcS] <;> omega) | fail) only [↓ptV_l, ↓vcA, vcB, ↓vcD, vcE, ↓reduceIte, Nat.reduceEqDiff, Nat.reduceAdd, Nat.reduceMul, Nat.reduceLeDiff, Int.reduceLE, Int.reduceLT, Int.reduceEq, Int.reduceToNat, Int.reduceAdd, Int.reduceSub, Int.reduceMul, Int.reduceNeg, reduceCtorEq, Option.bind_some, Option.map_some, List.length_cons, List.length_nil, vcM, List.getElem?_toArray, List.getElem?_cons_zero, List.getElem?_cons_succ])
        exact rest j wj qv sv rq d _ (by omega) B hdn h8
      · (refine W_at c4_ok ?_; refine ⟨_, rfl, ?_⟩; simp (disch := first | omega | assumption | rfl | (simp only [vcS] <;> omega) | fail) only [↓ptV_l, ↓vcA, vcB, ↓vcD, vcE, ↓reduceIte, Nat.reduceEqDiff, Nat.reduceAdd, Nat.reduceMul, Nat.reduceLeDiff, Int.reduceLE, Int.reduceLT, Int.reduceEq, Int.reduceToNat, Int.reduceAdd, Int.reduceSub, Int.reduceMul, Int.reduceNeg, reduceCtorEq, Option.bind_some, Option.map_some, List.length_cons, List.length_nil, vcM, List.getElem?_toArray, List.getElem?_cons_zero, List.getElem?_cons_succ, c1])
        (refine W_at c4_ok ?_; refine ⟨_, rfl, ?_⟩; simp (disch := first | omega | assumption | rfl | (simp only [vcS] <;> omega) | fail) only [↓ptV_l, ↓vcA, vcB, ↓vcD, vcE, ↓reduceIte, Nat.reduceEqDiff, Nat.reduceAdd, Nat.reduceMul, Nat.reduceLeDiff, Int.reduceLE, Int.reduceLT, Int.reduceEq, Int.reduceToNat, Int.reduceAdd, Int.reduceSub, Int.reduceMul, Int.reduceNeg, reduceCtorEq, Option.bind_some, Option.map_some, List.length_cons, List.length_nil, vcM, List.getElem?_toArray, List.getElem?_cons_zero, List.getElem?_cons_succ])
        exact rest j wj qv sv rq d _ (by omega) B hdn h8
    | succ k ih =>
      intro j wj qv sv rq d hj B hdn h8
      have c2 : ((j : Nat) : Int) < 30 := by omega
      by_cases c1 : ((j : Nat) : Int) < (nn : Nat)
      · obtain ⟨b, o, kind, a, m, v, bs, hq, hr, hv, hbb, hn⟩ := hA.act B.grown (i := j) (by omega)
        have cw : 0 ≤ ((j : Nat) : Int) ∧ ((j : Nat) : Int) < (nn : Nat) := by omega
        have hwj : IntKind.i64.wrap (((j : Nat) : Int) + 1) = ((j + 1 : Nat) : Int) := wrap_i64 (by omega) (by omega)
        have x4 : (rcell sv rq d).extract 0 (0 + 4) = rcell sv rq d := rfl
        have s4 : (rcell sv rq d).size = 4 := rfl
        have hrv : Value.agg (rcell sv rq d) = rv sv rq d := rfl
        subst hq
        (refine W_at c4_ok ?_; refine ⟨_, rfl, ?_⟩; simp (disch := first | omega | assumption | rfl | (simp only [vcS] <;> omega) | fail) only [↓ptV_l, ↓vcA, vcB, ↓vcD, vcE, ↓reduceIte, Nat.reduceEqDiff, Nat.reduceAdd, Nat.reduceMul, Nat.reduceLeDiff, Int.reduceLE, Int.reduceLT, Int.reduceEq, Int.reduceToNat, Int.reduceAdd, Int.reduceSub, Int.reduceMul, Int.reduceNeg, reduceCtorEq, Option.bind_some, Option.map_some, List.length_cons, List.length_nil, vcM, List.getElem?_toArray, List.getElem?_cons_zero, List.getElem?_cons_succ, c1, c2])
        (refine W_at c4_ok ?_; refine ⟨_, rfl, ?_⟩; simp (disch := first | omega | assumption | rfl | (simp only [vcS] <;> omega) | fail) only [↓ptV_l, ↓vcA, vcB, ↓vcD, vcE, ↓reduceIte, Nat.reduceEqDiff, Nat.reduceAdd, Nat.reduceMul, Nat.reduceLeDiff, Int.reduceLE, Int.reduceLT, Int.reduceEq, Int.reduceToNat, Int.reduceAdd, Int.reduceSub, Int.reduceMul, Int.reduceNeg, reduceCtorEq, Option.bind_some, Option.map_some, List.length_cons, List.length_nil, vcM, List.getElem?_toArray, List.getElem?_cons_zero, List.getElem?_cons_succ])
        (refine W_at c4_ok ?_; refine ⟨_, rfl, ?_⟩; simp (disch := first | omega | assumption | rfl | (simp only [vcS] <;> omega) | fail) only [↓ptV_l, ↓vcA, vcB, ↓vcD, vcE, ↓reduceIte, Nat.reduceEqDiff, Nat.reduceAdd, Nat.reduceMul, Nat.reduceLeDiff, Int.reduceLE, Int.reduceLT, Int.reduceEq, Int.reduceToNat, Int.reduceAdd, Int.reduceSub, Int.reduceMul, Int.reduceNeg, reduceCtorEq, Option.bind_some, Option.map_some, List.length_cons, List.length_nil, vcM, List.getElem?_toArray, List.getElem?_cons_zero, List.getElem?_cons_succ, cw, hr, Int.toNat_natCast, h8, x4, s4, hrv])
        have Bd := B.ext (show Ext wj wj.drew from (Keep.refl _ wj).drew)
        refine callV_ret (Bd.do (by omega) hv hbb hn) ?_
        intro u wk hk
        obtain ⟨qv', sv', rq', rfl, Bk, hKk, hNk⟩ := Bd.act (by omega) hbb hn hk
        have s4' : (rcell sv' rq' (actD d kind a m bs)).size = 4 := rfl
        have hrv' : rv sv' rq' (actD d kind a m bs) = Value.agg (rcell sv' rq' (actD d kind a m bs)) := rfl
        have h8k := hKk.at (show wj.drew.heap[p8]? = _ from h8) (Both_box_ne Bd.disk h8)
        have hok8 : okO (some (.cells (rcell sv rq d) 30 (0, 0))) 0 4 = True := by simp [okO, rcell]
        rw [hrv']
        simp (disch := first | omega | assumption | rfl | (simp only [vcS] <;> omega) | fail) only [↓ptV_l, ↓vcA, vcB, ↓vcD, vcE, ↓reduceIte, Nat.reduceEqDiff, Nat.reduceAdd, Nat.reduceMul, Nat.reduceLeDiff, Int.reduceLE, Int.reduceLT, Int.reduceEq, Int.reduceToNat, Int.reduceAdd, Int.reduceSub, Int.reduceMul, Int.reduceNeg, reduceCtorEq, Option.bind_some, Option.map_some, List.length_cons, List.length_nil, vcM, List.getElem?_toArray, List.getElem?_cons_zero, List.getElem?_cons_succ, s4', h8k, hok8]
        refine ⟨rc_flat (w := w) Bk.doc.safe.one Bk.doc.queue.one, ?_⟩
        have h88 : (wk.putN p8 0 (rcell sv' rq' (actD d kind a m bs))).heap[p8]? = some (.cells (rcell sv' rq' (actD d kind a m bs)) 30 (0, 0)) := by
          rw [heap_putN_eq h8k, splice_all (by simp [rcell])]
        have k8 : Keep (fun k => k = p8) wk (wk.putN p8 0 (rcell sv' rq' (actD d kind a m bs))) := (Keep.refl _ wk).putN _ fun _ => rfl
        have B8 := Bk.box h8k hp8 k8
        generalize World.putN _ _ _ _ = wl at h88 B8 ⊢
        (refine W_at c4_ok ?_; refine ⟨_, rfl, ?_⟩; simp (disch := first | omega | assumption | rfl | (simp only [vcS] <;> omega) | fail) only [↓ptV_l, ↓vcA, vcB, ↓vcD, vcE, ↓reduceIte, Nat.reduceEqDiff, Nat.reduceAdd, Nat.reduceMul, Nat.reduceLeDiff, Int.reduceLE, Int.reduceLT, Int.reduceEq, Int.reduceToNat, Int.reduceAdd, Int.reduceSub, Int.reduceMul, Int.reduceNeg, reduceCtorEq, Option.bind_some, Option.map_some, List.length_cons, List.length_nil, vcM, List.getElem?_toArray, List.getElem?_cons_zero, List.getElem?_cons_succ, hwj])
        (refine W_at c4_ok ?_; refine ⟨_, rfl, ?_⟩; simp (disch := first | omega | assumption | rfl | (simp only [vcS] <;> omega) | fail) only [↓ptV_l, ↓vcA, vcB, ↓vcD, vcE, ↓reduceIte, Nat.reduceEqDiff, Nat.reduceAdd, Nat.reduceMul, Nat.reduceLeDiff, Int.reduceLE, Int.reduceLT, Int.reduceEq, Int.reduceToNat, Int.reduceAdd, Int.reduceSub, Int.reduceMul, Int.reduceNeg, reduceCtorEq, Option.bind_some, Option.map_some, List.length_cons, List.length_nil, vcM, List.getElem?_toArray, List.getElem?_cons_zero, List.getElem?_cons_succ])
        exact ih (j + 1) wl qv' sv' rq' _ (by omega) B8 ((actD_n _ _ _ _ _).trans hdn) h88
      · (refine W_at c4_ok ?_; refine ⟨_, rfl, ?_⟩; simp (disch := first | omega | assumption | rfl | (simp only [vcS] <;> omega) | fail) only [↓ptV_l, ↓vcA, vcB, ↓vcD, vcE, ↓reduceIte, Nat.reduceEqDiff, Nat.reduceAdd, Nat.reduceMul, Nat.reduceLeDiff, Int.reduceLE, Int.reduceLT, Int.reduceEq, Int.reduceToNat, Int.reduceAdd, Int.reduceSub, Int.reduceMul, Int.reduceNeg, reduceCtorEq, Option.bind_some, Option.map_some, List.length_cons, List.length_nil, vcM, List.getElem?_toArray, List.getElem?_cons_zero, List.getElem?_cons_succ, c1])
        (refine W_at c4_ok ?_; refine ⟨_, rfl, ?_⟩; simp (disch := first | omega | assumption | rfl | (simp only [vcS] <;> omega) | fail) only [↓ptV_l, ↓vcA, vcB, ↓vcD, vcE, ↓reduceIte, Nat.reduceEqDiff, Nat.reduceAdd, Nat.reduceMul, Nat.reduceLeDiff, Int.reduceLE, Int.reduceLT, Int.reduceEq, Int.reduceToNat, Int.reduceAdd, Int.reduceSub, Int.reduceMul, Int.reduceNeg, reduceCtorEq, Option.bind_some, Option.map_some, List.length_cons, List.length_nil, vcM, List.getElem?_toArray, List.getElem?_cons_zero, List.getElem?_cons_succ])
        exact rest j wj qv sv rq d _ (by omega) B hdn h8
  (refine W_at c4_ok ?_; refine ⟨_, rfl, ?_⟩; simp (disch := first | omega | assumption | rfl | (simp only [vcS] <;> omega) | fail) only [↓ptV_l, ↓vcA, vcB, ↓vcD, vcE, ↓reduceIte, Nat.reduceEqDiff, Nat.reduceAdd, Nat.reduceMul, Nat.reduceLeDiff, Int.reduceLE, Int.reduceLT, Int.reduceEq, Int.reduceToNat, Int.reduceAdd, Int.reduceSub, Int.reduceMul, Int.reduceNeg, reduceCtorEq, Option.bind_some, Option.map_some, List.length_cons, List.length_nil, vcM, List.getElem?_toArray, List.getElem?_cons_zero, List.getElem?_cons_succ])
  exact L 30 0 w4 _ _ _ _ (by omega) B4 (by decide +kernel) hb6
end Go.Proofs
