/- The law JournalSurvives: its walk. -/
import Derived.Test.YtfackfekmadjbaaJG
set_option linter.unusedSimpArgs false
set_option linter.unusedVariables false
set_option linter.constructorNameAsVariable false
namespace Go.Proofs
open Go.Vc
set_option maxRecDepth 10000

theorem arm_inv {d : DS} {J : JS} {n : Int} (h : JInv d J) (hn : n ≤ 9223372036854775807) : JInv (armD d n) J := by
  have ok : (armD d n).Ok := ⟨h.ok.n, h.ok.safe, h.ok.queue, h.ok.len, by show -1 ≤ (if n < 0 then -1 else n) ∧ (if n < 0 then -1 else n) ≤ _; split <;> omega⟩
  exact h.of ok rfl h.h0 h.laid
theorem arm_good {d : DS} {J : JS} {n : Int} (h : Good d J) (hn : n ≤ 9223372036854775807) : Good (armD d n) J := ⟨arm_inv h.inv hn, h.queue, h.alive⟩
theorem Good.crash {d : DS} {J : JS} (h : Good d J) (keep torn : Int) : JInv (crashD d keep torn) J :=
  crash_inv h.inv h.inv.ok rfl rfl (fun x hx => by rw [h.queue] at hx; cases hx) keep torn
theorem DAt.tat {B : Nat → Prop} {w w' : World} {p r : Nat} {qv : Value} {d : DS} (h : DAt w p r qv d) (k : Keep (DB p r qv) w w') {s2 r2 : Value} {S : List Int} {R : List (List Int)} (t : TAt B w s2 r2 S R) : TAt B w' s2 r2 S R := by
  have n5 : ∀ g c, w.heap[g]? = some (.cells c 5 (0, 0)) → ¬ DB p r qv g := fun g c hg => h.nob hg (by decide) (by decide)
  have n30 : ∀ g c, w.heap[g]? = some (.cells c 30 (0, 0)) → ¬ DB p r qv g := fun g c hg => h.nob hg (by decide) (by decide)
  obtain ⟨vs, h1, h2, h3⟩ := t.rows
  exact ⟨t.st.keep k n5, t.stB, t.rvB, vs, h1.keep k fun g hg => (h1.blk hg).2.elim fun c hc => n30 g c hc, forall2_keep h2 fun v b hb => hb.keep k n5, h3⟩
theorem StepTo.tat {base : Nat} {wa wb : World} {jp p r : Nat} {sv rv qv sv' rv' qv' s2 r2 : Value} {J J' : JS} {d d' : DS} {S : List Int} {R : List (List Int)} (hSa : JSys base wa jp p r sv rv qv J d) (hSt : StepTo base wa wb jp p r rv qv J' d' sv' rv' qv') (t : TAt (fun x => ¬ blk rv x) wa s2 r2 S R) : TAt (fun x => ¬ blk rv' x) wb s2 r2 S R := by
  have t2 := hSa.tat hSt.keep t.all fun x hx => hx.1
  refine t2.mono fun x hx hb => ?_
  rcases hSt.rvb x hb with h3 | h3
  · exact hx.1 h3
  · have := hx.2; omega
theorem JSys.armed {base : Nat} {w w' : World} {jp p r : Nat} {sv rv qv : Value} {J : JS} {d d' : DS} (h : JSys base w jp p r sv rv qv J d) (hD : DAt w' p r qv d') (k : Keep (fun x => x = p) w w') : JSys base w' jp p r sv rv qv J d' :=
  ⟨h.j.disk h.d (k.mono fun x hx => .inl hx), hD, h.base⟩
theorem reopen_ok (w : World) (base p r : Nat) (qv : Value) (d : DS) (kind arm keep torn again : Int) (v : Value) (P : JS → Prop) (hD : DAt w p r qv d) (hk : d.Ok) (hB : ∀ g, DB p r qv g → base ≤ g) (hb : base ≤ w.heap.size) (hv : v.oneCell' = true)
    (kk : -9223372036854775808 ≤ keep ∧ keep ≤ 9223372036854775807) (ka : -9223372036854775808 ≤ again ∧ again ≤ 9223372036854775807) (hC : ∀ keep torn, ∃ J, P J ∧ JInv (crashD d keep torn) J) :
    Calls Try.prog 23 #[.pointer (some ⟨p, 0, none⟩), .agg #[.int .i64 kind, .int .i64 arm, .int .i64 keep, .int .i64 torn, .int .i64 again, v]] w
      (Ret fun u w' => ∃ jp sv rv qv' d' J, P J ∧ u = .pointer (some ⟨jp, 0, none⟩) ∧ JSys base w' jp p r sv rv qv' J d' ∧ Good d' J ∧ d'.left = -1 ∧ d'.n = d.n ∧ Keep (DB p r qv) w w' ∧ (∀ g, blk rv g → w.heap.size ≤ g) ∧ w.heap.size ≤ jp) := by
  refine calls_of_cfg c23_ok (Nat.le_of_ble_eq_true rfl) ?_
  simp only [argE_nil, argE_cons, Nat.reduceAdd, Nat.zero_add]
  (refine W_at c23_ok ?_; refine ⟨_, rfl, ?_⟩; simp (disch := first | omega | assumption | rfl | (simp only [vcS] <;> omega) | fail) only [↓ptV_l, ↓vcA, vcB, ↓vcD, vcE, ↓reduceIte, Nat.reduceEqDiff, Nat.reduceAdd, Nat.reduceMul, Nat.reduceLeDiff, Int.reduceLE, Int.reduceLT, Int.reduceEq, Int.reduceToNat, Int.reduceAdd, Int.reduceSub, Int.reduceMul, Int.reduceNeg, reduceCtorEq, Option.bind_some, Option.map_some, List.length_cons, List.length_nil, vcM, List.getElem?_toArray, List.getElem?_cons_zero, List.getElem?_cons_succ])
  have hE0 : Ext w (w.alloc (.cells #[.int .i64 kind, .int .i64 arm, .int .i64 keep, .int .i64 torn, .int .i64 again, v] 36)) := (Keep.refl _ w).alloc _
  have hbx : (w.alloc (.cells #[.int .i64 kind, .int .i64 arm, .int .i64 keep, .int .i64 torn, .int .i64 again, v] 36)).heap[w.heap.size]? = some (.cells #[.int .i64 kind, .int .i64 arm, .int .i64 keep, .int .i64 torn, .int .i64 again, v] 36 (0, 0)) := heap_new _ _ _ rfl
  generalize World.alloc _ _ = w1 at hE0 hbx ⊢
  generalize hbs : w.heap.size = bs at hbx ⊢
  have hD1 := hD.ext hE0
  have hz := hE0.size
  have h50 : IntKind.i64.wrap (keep.tmod 50 + 0) = keep.tmod 50 + 0 := by
    have := Int.tmod_lt_of_pos keep (show (0 : Int) < 50 by omega)
    have := Int.lt_tmod_of_pos keep (show (0 : Int) < 50 by omega)
    exact wrap_i64 (by omega) (by omega)
  (refine W_at c23_ok ?_; refine ⟨_, rfl, ?_⟩; simp (disch := first | omega | assumption | rfl | (simp only [vcS] <;> omega) | fail) only [↓ptV_l, ↓vcA, vcB, ↓vcD, vcE, ↓reduceIte, Nat.reduceEqDiff, Nat.reduceAdd, Nat.reduceMul, Nat.reduceLeDiff, Int.reduceLE, Int.reduceLT, Int.reduceEq, Int.reduceToNat, Int.reduceAdd, Int.reduceSub, Int.reduceMul, Int.reduceNeg, reduceCtorEq, Option.bind_some, Option.map_some, List.length_cons, List.length_nil, vcM, List.getElem?_toArray, List.getElem?_cons_zero, List.getElem?_cons_succ])
  (refine W_at c23_ok ?_; refine ⟨_, rfl, ?_⟩; simp (disch := first | omega | assumption | rfl | (simp only [vcS] <;> omega) | fail) only [↓ptV_l, ↓vcA, vcB, ↓vcD, vcE, ↓reduceIte, Nat.reduceEqDiff, Nat.reduceAdd, Nat.reduceMul, Nat.reduceLeDiff, Int.reduceLE, Int.reduceLT, Int.reduceEq, Int.reduceToNat, Int.reduceAdd, Int.reduceSub, Int.reduceMul, Int.reduceNeg, reduceCtorEq, Option.bind_some, Option.map_some, List.length_cons, List.length_nil, vcM, List.getElem?_toArray, List.getElem?_cons_zero, List.getElem?_cons_succ])
  (refine W_at c23_ok ?_; refine ⟨_, rfl, ?_⟩; simp (disch := first | omega | assumption | rfl | (simp only [vcS] <;> omega) | fail) only [↓ptV_l, ↓vcA, vcB, ↓vcD, vcE, ↓reduceIte, Nat.reduceEqDiff, Nat.reduceAdd, Nat.reduceMul, Nat.reduceLeDiff, Int.reduceLE, Int.reduceLT, Int.reduceEq, Int.reduceToNat, Int.reduceAdd, Int.reduceSub, Int.reduceMul, Int.reduceNeg, reduceCtorEq, Option.bind_some, Option.map_some, List.length_cons, List.length_nil, vcM, List.getElem?_toArray, List.getElem?_cons_zero, List.getElem?_cons_succ])
  (refine W_at c23_ok ?_; refine ⟨_, rfl, ?_⟩; simp (disch := first | omega | assumption | rfl | (simp only [vcS] <;> omega) | fail) only [↓ptV_l, ↓vcA, vcB, ↓vcD, vcE, ↓reduceIte, Nat.reduceEqDiff, Nat.reduceAdd, Nat.reduceMul, Nat.reduceLeDiff, Int.reduceLE, Int.reduceLT, Int.reduceEq, Int.reduceToNat, Int.reduceAdd, Int.reduceSub, Int.reduceMul, Int.reduceNeg, reduceCtorEq, Option.bind_some, Option.map_some, List.length_cons, List.length_nil, vcM, List.getElem?_toArray, List.getElem?_cons_zero, List.getElem?_cons_succ, hbx, h50])
  refine callV_ret (crash_ok w1 p r qv d _ torn hD1 hk) ?_
  rintro _ w2 ⟨qv2, hD2, hk2, hb2⟩
  first | (simp (disch := first | omega | assumption | rfl | (simp only [vcS] <;> omega) | fail) only [↓ptV_l, ↓vcA, vcB, ↓vcD, vcE, ↓reduceIte, Nat.reduceEqDiff, Nat.reduceAdd, Nat.reduceMul, Nat.reduceLeDiff, Int.reduceLE, Int.reduceLT, Int.reduceEq, Int.reduceToNat, Int.reduceAdd, Int.reduceSub, Int.reduceMul, Int.reduceNeg, reduceCtorEq, Option.bind_some, Option.map_some, List.length_cons, List.length_nil, vcM, List.getElem?_toArray, List.getElem?_cons_zero, List.getElem?_cons_succ]) | skip
  obtain ⟨J, hP, hI⟩ := hC (keep.tmod 50 + 0) torn
  have hcn : (crashD d (keep.tmod 50 + 0) torn).n = d.n := rfl
  have hcq : (crashD d (keep.tmod 50 + 0) torn).queue = [] := rfl
  have hcd : (crashD d (keep.tmod 50 + 0) torn).dead = false := rfl
  have hcl : (crashD d (keep.tmod 50 + 0) torn).left = -1 := rfl
  generalize crashD d (keep.tmod 50 + 0) torn = d2 at hD2 hI hcn hcq hcd hcl
  have hK2 : Keep (DB p r qv) w w2 := (hE0.mono fun _ h => h.elim).trans hk2 fun _ _ h => h
  have hbx2 := hk2.at hbx (fun h => by have := hD1.kind h; rcases this with ⟨es, c2, e⟩ | ⟨c2, t2, e, ht⟩; rw [hbx] at e; cases e; rw [hbx] at e; cases e; rcases ht with h | h <;> exact absurd h (by decide))
  have hB2 : ∀ g, DB p r qv2 g → base ≤ g := fun g hg => by
    rcases hg with rfl | rfl | hg
    · exact hB _ (.inl rfl)
    · exact hB _ (.inr (.inl rfl))
    · rcases hb2 g hg with h | h
      · exact hB _ (.inr (.inr h))
      · omega
  have cont : ∀ (w3 : World) (d3 : DS) (tl : Env), DAt w3 p r qv2 d3 → d3.n = d.n → JInv d3 J → d3.queue = [] → d3.dead = false → Keep (DB p r qv) w w3 →
      W Try.prog (Ret fun u w' => ∃ jp sv rv qv' d' J, P J ∧ u = .pointer (some ⟨jp, 0, none⟩) ∧ JSys base w' jp p r sv rv qv' J d' ∧ Good d' J ∧ d'.left = -1 ∧ d'.n = d.n ∧ Keep (DB p r qv) w w' ∧ (∀ g, blk rv g → bs ≤ g) ∧ bs ≤ jp) 23 14 ((0, .pointer (some ⟨p, 0, none⟩)) :: (3, .pointer (some ⟨bs, 0, none⟩)) :: (5, .int .i64 0) :: tl) w3 := by
    intro w3 d3 tl hD3 hn3 hI3 hq3 ha3 hK3
    (refine W_at c23_ok ?_; refine ⟨_, rfl, ?_⟩; simp (disch := first | omega | assumption | rfl | (simp only [vcS] <;> omega) | fail) only [↓ptV_l, ↓vcA, vcB, ↓vcD, vcE, ↓reduceIte, Nat.reduceEqDiff, Nat.reduceAdd, Nat.reduceMul, Nat.reduceLeDiff, Int.reduceLE, Int.reduceLT, Int.reduceEq, Int.reduceToNat, Int.reduceAdd, Int.reduceSub, Int.reduceMul, Int.reduceNeg, reduceCtorEq, Option.bind_some, Option.map_some, List.length_cons, List.length_nil, vcM, List.getElem?_toArray, List.getElem?_cons_zero, List.getElem?_cons_succ])
    refine callV_ret (open_ok' w3 p r qv2 d3 J hD3 hI3 hq3 ha3) ?_
    intro u w4 hO
    have hjn : w3.heap.size ≤ (match u with | .tuple #[.pointer (some a), _] => a.block | _ => w3.heap.size) := by obtain ⟨jp, sv, rv, rfl, _, _, h, _⟩ := hO; exact h
    obtain ⟨jp, sv, rv, rfl, hS4, hE4, hrn, _⟩ := OpenR.sys (base := base) hD3 (Nat.le_trans hb (by rw [hbs]; have := hK3.size; omega)) hB2 hO
    have hjn : w3.heap.size ≤ jp := hjn
    have hz3 := hK3.size
    first | (simp (disch := first | omega | assumption | rfl | (simp only [vcS] <;> omega) | fail) only [↓ptV_l, ↓vcA, vcB, ↓vcD, vcE, ↓reduceIte, Nat.reduceEqDiff, Nat.reduceAdd, Nat.reduceMul, Nat.reduceLeDiff, Int.reduceLE, Int.reduceLT, Int.reduceEq, Int.reduceToNat, Int.reduceAdd, Int.reduceSub, Int.reduceMul, Int.reduceNeg, reduceCtorEq, Option.bind_some, Option.map_some, List.length_cons, List.length_nil, vcM, List.getElem?_toArray, List.getElem?_cons_zero, List.getElem?_cons_succ]) | skip
    (refine W_at c23_ok ?_; refine ⟨_, rfl, ?_⟩; simp (disch := first | omega | assumption | rfl | (simp only [vcS] <;> omega) | fail) only [↓ptV_l, ↓vcA, vcB, ↓vcD, vcE, ↓reduceIte, Nat.reduceEqDiff, Nat.reduceAdd, Nat.reduceMul, Nat.reduceLeDiff, Int.reduceLE, Int.reduceLT, Int.reduceEq, Int.reduceToNat, Int.reduceAdd, Int.reduceSub, Int.reduceMul, Int.reduceNeg, reduceCtorEq, Option.bind_some, Option.map_some, List.length_cons, List.length_nil, vcM, List.getElem?_toArray, List.getElem?_cons_zero, List.getElem?_cons_succ, eq_self])
    (refine W_at c23_ok ?_; refine ⟨_, rfl, ?_⟩; simp (disch := first | omega | assumption | rfl | (simp only [vcS] <;> omega) | fail) only [↓ptV_l, ↓vcA, vcB, ↓vcD, vcE, ↓reduceIte, Nat.reduceEqDiff, Nat.reduceAdd, Nat.reduceMul, Nat.reduceLeDiff, Int.reduceLE, Int.reduceLT, Int.reduceEq, Int.reduceToNat, Int.reduceAdd, Int.reduceSub, Int.reduceMul, Int.reduceNeg, reduceCtorEq, Option.bind_some, Option.map_some, List.length_cons, List.length_nil, vcM, List.getElem?_toArray, List.getElem?_cons_zero, List.getElem?_cons_succ])
    (refine W_at c23_ok ?_; refine ⟨_, rfl, ?_⟩; simp (disch := first | omega | assumption | rfl | (simp only [vcS] <;> omega) | fail) only [↓ptV_l, ↓vcA, vcB, ↓vcD, vcE, ↓reduceIte, Nat.reduceEqDiff, Nat.reduceAdd, Nat.reduceMul, Nat.reduceLeDiff, Int.reduceLE, Int.reduceLT, Int.reduceEq, Int.reduceToNat, Int.reduceAdd, Int.reduceSub, Int.reduceMul, Int.reduceNeg, reduceCtorEq, Option.bind_some, Option.map_some, List.length_cons, List.length_nil, vcM, List.getElem?_toArray, List.getElem?_cons_zero, List.getElem?_cons_succ])
    refine callV_ret (arm_ok w4 p r qv2 d3 (-1) hS4.d (by omega)) ?_
    rintro _ w5 ⟨hD5, hk5⟩
    first | (simp (disch := first | omega | assumption | rfl | (simp only [vcS] <;> omega) | fail) only [↓ptV_l, ↓vcA, vcB, ↓vcD, vcE, ↓reduceIte, Nat.reduceEqDiff, Nat.reduceAdd, Nat.reduceMul, Nat.reduceLeDiff, Int.reduceLE, Int.reduceLT, Int.reduceEq, Int.reduceToNat, Int.reduceAdd, Int.reduceSub, Int.reduceMul, Int.reduceNeg, reduceCtorEq, Option.bind_some, Option.map_some, List.length_cons, List.length_nil, vcM, List.getElem?_toArray, List.getElem?_cons_zero, List.getElem?_cons_succ]) | skip
    (refine W_at c23_ok ?_; refine ⟨_, rfl, ?_⟩; simp (disch := first | omega | assumption | rfl | (simp only [vcS] <;> omega) | fail) only [↓ptV_l, ↓vcA, vcB, ↓vcD, vcE, ↓reduceIte, Nat.reduceEqDiff, Nat.reduceAdd, Nat.reduceMul, Nat.reduceLeDiff, Int.reduceLE, Int.reduceLT, Int.reduceEq, Int.reduceToNat, Int.reduceAdd, Int.reduceSub, Int.reduceMul, Int.reduceNeg, reduceCtorEq, Option.bind_some, Option.map_some, List.length_cons, List.length_nil, vcM, List.getElem?_toArray, List.getElem?_cons_zero, List.getElem?_cons_succ])
    (refine W_at c23_ok ?_; refine ⟨_, rfl, ?_⟩; simp (disch := first | omega | assumption | rfl | (simp only [vcS] <;> omega) | fail) only [↓ptV_l, ↓vcA, vcB, ↓vcD, vcE, ↓reduceIte, Nat.reduceEqDiff, Nat.reduceAdd, Nat.reduceMul, Nat.reduceLeDiff, Int.reduceLE, Int.reduceLT, Int.reduceEq, Int.reduceToNat, Int.reduceAdd, Int.reduceSub, Int.reduceMul, Int.reduceNeg, reduceCtorEq, Option.bind_some, Option.map_some, List.length_cons, List.length_nil, vcM, List.getElem?_toArray, List.getElem?_cons_zero, List.getElem?_cons_succ, Ret_returned])
    exact ⟨jp, sv, rv, qv2, armD d3 (-1), J, hP, rfl, hS4.armed hD5 hk5, ⟨arm_inv hI3 (by omega), hq3, ha3⟩, rfl, hn3, (hK3.trans hE4 fun _ _ h => h.elim).trans hk5 fun i _ h => .inl h, fun g hg => by have := hrn g hg; omega, by omega⟩
  by_cases hag : again > 0
  · have hw1 : IntKind.i64.wrap (again - 1) = again - 1 := wrap_i64 (by omega) (by omega)
    have ht1 := Int.tmod_lt_of_pos (again - 1) (show (0 : Int) < 6 by omega)
    have ht2 := Int.lt_tmod_of_pos (again - 1) (show (0 : Int) < 6 by omega)
    (refine W_at c23_ok ?_; refine ⟨_, rfl, ?_⟩; simp (disch := first | omega | assumption | rfl | (simp only [vcS] <;> omega) | fail) only [↓ptV_l, ↓vcA, vcB, ↓vcD, vcE, ↓reduceIte, Nat.reduceEqDiff, Nat.reduceAdd, Nat.reduceMul, Nat.reduceLeDiff, Int.reduceLE, Int.reduceLT, Int.reduceEq, Int.reduceToNat, Int.reduceAdd, Int.reduceSub, Int.reduceMul, Int.reduceNeg, reduceCtorEq, Option.bind_some, Option.map_some, List.length_cons, List.length_nil, vcM, List.getElem?_toArray, List.getElem?_cons_zero, List.getElem?_cons_succ, hbx2, hag])
    (refine W_at c23_ok ?_; refine ⟨_, rfl, ?_⟩; simp (disch := first | omega | assumption | rfl | (simp only [vcS] <;> omega) | fail) only [↓ptV_l, ↓vcA, vcB, ↓vcD, vcE, ↓reduceIte, Nat.reduceEqDiff, Nat.reduceAdd, Nat.reduceMul, Nat.reduceLeDiff, Int.reduceLE, Int.reduceLT, Int.reduceEq, Int.reduceToNat, Int.reduceAdd, Int.reduceSub, Int.reduceMul, Int.reduceNeg, reduceCtorEq, Option.bind_some, Option.map_some, List.length_cons, List.length_nil, vcM, List.getElem?_toArray, List.getElem?_cons_zero, List.getElem?_cons_succ])
    (refine W_at c23_ok ?_; refine ⟨_, rfl, ?_⟩; simp (disch := first | omega | assumption | rfl | (simp only [vcS] <;> omega) | fail) only [↓ptV_l, ↓vcA, vcB, ↓vcD, vcE, ↓reduceIte, Nat.reduceEqDiff, Nat.reduceAdd, Nat.reduceMul, Nat.reduceLeDiff, Int.reduceLE, Int.reduceLT, Int.reduceEq, Int.reduceToNat, Int.reduceAdd, Int.reduceSub, Int.reduceMul, Int.reduceNeg, reduceCtorEq, Option.bind_some, Option.map_some, List.length_cons, List.length_nil, vcM, List.getElem?_toArray, List.getElem?_cons_zero, List.getElem?_cons_succ, hbx2, hw1])
    refine callV_ret (arm_ok w2 p r qv2 d2 ((again - 1).tmod 6) hD2 (by omega)) ?_
    rintro _ w3 ⟨hD3, hk3⟩
    first | (simp (disch := first | omega | assumption | rfl | (simp only [vcS] <;> omega) | fail) only [↓ptV_l, ↓vcA, vcB, ↓vcD, vcE, ↓reduceIte, Nat.reduceEqDiff, Nat.reduceAdd, Nat.reduceMul, Nat.reduceLeDiff, Int.reduceLE, Int.reduceLT, Int.reduceEq, Int.reduceToNat, Int.reduceAdd, Int.reduceSub, Int.reduceMul, Int.reduceNeg, reduceCtorEq, Option.bind_some, Option.map_some, List.length_cons, List.length_nil, vcM, List.getElem?_toArray, List.getElem?_cons_zero, List.getElem?_cons_succ]) | skip
    exact cont w3 _ [] hD3 hcn (arm_inv hI (by omega)) hcq hcd (hK2.trans hk3 fun i _ h => .inl h)
  · (refine W_at c23_ok ?_; refine ⟨_, rfl, ?_⟩; simp (disch := first | omega | assumption | rfl | (simp only [vcS] <;> omega) | fail) only [↓ptV_l, ↓vcA, vcB, ↓vcD, vcE, ↓reduceIte, Nat.reduceEqDiff, Nat.reduceAdd, Nat.reduceMul, Nat.reduceLeDiff, Int.reduceLE, Int.reduceLT, Int.reduceEq, Int.reduceToNat, Int.reduceAdd, Int.reduceSub, Int.reduceMul, Int.reduceNeg, reduceCtorEq, Option.bind_some, Option.map_some, List.length_cons, List.length_nil, vcM, List.getElem?_toArray, List.getElem?_cons_zero, List.getElem?_cons_succ, hbx2, hag])
    (refine W_at c23_ok ?_; refine ⟨_, rfl, ?_⟩; simp (disch := first | omega | assumption | rfl | (simp only [vcS] <;> omega) | fail) only [↓ptV_l, ↓vcA, vcB, ↓vcD, vcE, ↓reduceIte, Nat.reduceEqDiff, Nat.reduceAdd, Nat.reduceMul, Nat.reduceLeDiff, Int.reduceLE, Int.reduceLT, Int.reduceEq, Int.reduceToNat, Int.reduceAdd, Int.reduceSub, Int.reduceMul, Int.reduceNeg, reduceCtorEq, Option.bind_some, Option.map_some, List.length_cons, List.length_nil, vcM, List.getElem?_toArray, List.getElem?_cons_zero, List.getElem?_cons_succ])
    exact cont w2 d2 _ hD2 hcn hI hcq hcd hK2

/-- A box of the document's journal. -/
abbrev Box (w : World) (g : Nat) (s r : Value) : Prop := w.heap[g]? = some (.cells #[s, r] 33 (0, 0))
theorem Box.ne {base : Nat} {w : World} {jp p r : Nat} {sv rv qv : Value} {J : JS} {d : DS} {g : Nat} {s2 r2 : Value} (h : Box w g s2 r2) (hS : JSys base w jp p r sv rv qv J d) : ¬ JB jp p r rv qv g :=
  hS.nb h (by decide) (by decide) (by decide) (by decide)
theorem appR_armed {w w' : World} {jp p r : Nat} {rv qv : Value} {J : JS} {d : DS} {b : List Int} {u : Value} (hb : b.length ≤ 65535) (hr : ((b.length : Nat) : Int) ≤ roomF d J) (h : AppR w w' jp p r rv qv J d b u) :
    ∃ e d', u = .int .i64 e ∧ AppTo d d' J (J.app b) e ∧ JTo w w' jp p r rv qv (if e = 0 then J.app b else J) d' := by
  obtain ⟨e, rfl, ⟨h1, _⟩ | ⟨_, h1, _⟩ | ⟨_, _, d', h1, h2⟩⟩ := h
  · omega
  · omega
  · exact ⟨e, d', rfl, h1, h2⟩
theorem cmpR_armed {w w' : World} {jp p r : Nat} {rv qv : Value} {J : JS} {d : DS} {b : List Int} {u : Value} (hb : b.length ≤ 1048576) (hr : b.length + 6 ≤ 64 * secs d.n) (h : CmpR w w' jp p r rv qv J d b u) :
    ∃ e d', u = .int .i64 e ∧ AppTo d d' J (J.cmp b) e ∧ JTo w w' jp p r rv qv (if e = 0 then J.cmp b else J) d' := by
  obtain ⟨e, rfl, ⟨h1, _⟩ | ⟨_, h1, _⟩ | ⟨_, _, d', h1, h2⟩⟩ := h
  · omega
  · omega
  · exact ⟨e, d', rfl, h1, h2⟩
/-- What a call came to. -/
structure Came (base : Nat) (w : World) (jp p r : Nat) (sv rv qv : Value) (J Jn : JS) (d : DS) (e : Int) : Prop where
  sys : JSys base w jp p r sv rv qv (if e = 0 then Jn else J) d
  n : d.n = 1200
  ok : d.Ok
  res : (e = 0 ∧ Good d Jn) ∨ (e = 10 ∧ ∀ keep torn, JInv (crashD d keep torn) J ∨ JInv (crashD d keep torn) Jn)
set_option maxHeartbeats 3200000 in
theorem survives_ok (w : World) (q : Option Addr) (nn c : Nat) (xs : List (Array Value)) (hA : ActsJ w q nn c xs) :
    Calls Try.prog 5 #[.slice q nn c] w (Ret fun u w' => u = .bool true ∧ Ext w w') := by
  refine calls_of_cfg c5_ok (Nat.le_of_ble_eq_true rfl) ?_
  simp only [argE_nil, argE_cons, Nat.reduceAdd, Nat.zero_add]
  (refine W_at c5_ok ?_; refine ⟨_, rfl, ?_⟩; simp (disch := first | omega | assumption | rfl | (simp only [vcS] <;> omega) | fail) only [↓ptV_l, ↓vcA, vcB, ↓vcD, vcE, ↓reduceIte, Nat.reduceEqDiff, Nat.reduceAdd, Nat.reduceMul, Nat.reduceLeDiff, Int.reduceLE, Int.reduceLT, Int.reduceEq, Int.reduceToNat, Int.reduceAdd, Int.reduceSub, Int.reduceMul, Int.reduceNeg, reduceCtorEq, Option.bind_some, Option.map_some, List.length_cons, List.length_nil, vcM, List.getElem?_toArray, List.getElem?_cons_zero, List.getElem?_cons_succ])
  (refine W_at c5_ok ?_; refine ⟨_, rfl, ?_⟩; simp (disch := first | omega | assumption | rfl | (simp only [vcS] <;> omega) | fail) only [↓ptV_l, ↓vcA, vcB, ↓vcD, vcE, ↓reduceIte, Nat.reduceEqDiff, Nat.reduceAdd, Nat.reduceMul, Nat.reduceLeDiff, Int.reduceLE, Int.reduceLT, Int.reduceEq, Int.reduceToNat, Int.reduceAdd, Int.reduceSub, Int.reduceMul, Int.reduceNeg, reduceCtorEq, Option.bind_some, Option.map_some, List.length_cons, List.length_nil, vcM, List.getElem?_toArray, List.getElem?_cons_zero, List.getElem?_cons_succ])
  refine callV_ret (awake_ok w) ?_
  rintro _ w1 ⟨rfl, hE1⟩
  first | (simp (disch := first | omega | assumption | rfl | (simp only [vcS] <;> omega) | fail) only [↓ptV_l, ↓vcA, vcB, ↓vcD, vcE, ↓reduceIte, Nat.reduceEqDiff, Nat.reduceAdd, Nat.reduceMul, Nat.reduceLeDiff, Int.reduceLE, Int.reduceLT, Int.reduceEq, Int.reduceToNat, Int.reduceAdd, Int.reduceSub, Int.reduceMul, Int.reduceNeg, reduceCtorEq, Option.bind_some, Option.map_some, List.length_cons, List.length_nil, vcM, List.getElem?_toArray, List.getElem?_cons_zero, List.getElem?_cons_succ]) | skip
  (refine W_at c5_ok ?_; refine ⟨_, rfl, ?_⟩; simp (disch := first | omega | assumption | rfl | (simp only [vcS] <;> omega) | fail) only [↓ptV_l, ↓vcA, vcB, ↓vcD, vcE, ↓reduceIte, Nat.reduceEqDiff, Nat.reduceAdd, Nat.reduceMul, Nat.reduceLeDiff, Int.reduceLE, Int.reduceLT, Int.reduceEq, Int.reduceToNat, Int.reduceAdd, Int.reduceSub, Int.reduceMul, Int.reduceNeg, reduceCtorEq, Option.bind_some, Option.map_some, List.length_cons, List.length_nil, vcM, List.getElem?_toArray, List.getElem?_cons_zero, List.getElem?_cons_succ])
  (refine W_at c5_ok ?_; refine ⟨_, rfl, ?_⟩; simp (disch := first | omega | assumption | rfl | (simp only [vcS] <;> omega) | fail) only [↓ptV_l, ↓vcA, vcB, ↓vcD, vcE, ↓reduceIte, Nat.reduceEqDiff, Nat.reduceAdd, Nat.reduceMul, Nat.reduceLeDiff, Int.reduceLE, Int.reduceLT, Int.reduceEq, Int.reduceToNat, Int.reduceAdd, Int.reduceSub, Int.reduceMul, Int.reduceNeg, reduceCtorEq, Option.bind_some, Option.map_some, List.length_cons, List.length_nil, vcM, List.getElem?_toArray, List.getElem?_cons_zero, List.getElem?_cons_succ])
  refine callV_ret (new_ok w1 1200) ?_
  rintro _ w2 ⟨p, r, rfl, hD2, hE2, hp2, hr2⟩
  have hG0 : Good (newD 1200) J0 := new_good (by omega)
  have hn0 : (newD 1200).n = 1200 := rfl
  have hl0 : (newD 1200).left = -1 := rfl
  generalize newD 1200 = d0 at hD2 hG0 hn0 hl0
  first | (simp (disch := first | omega | assumption | rfl | (simp only [vcS] <;> omega) | fail) only [↓ptV_l, ↓vcA, vcB, ↓vcD, vcE, ↓reduceIte, Nat.reduceEqDiff, Nat.reduceAdd, Nat.reduceMul, Nat.reduceLeDiff, Int.reduceLE, Int.reduceLT, Int.reduceEq, Int.reduceToNat, Int.reduceAdd, Int.reduceSub, Int.reduceMul, Int.reduceNeg, reduceCtorEq, Option.bind_some, Option.map_some, List.length_cons, List.length_nil, vcM, List.getElem?_toArray, List.getElem?_cons_zero, List.getElem?_cons_succ]) | skip
  (refine W_at c5_ok ?_; refine ⟨_, rfl, ?_⟩; simp (disch := first | omega | assumption | rfl | (simp only [vcS] <;> omega) | fail) only [↓ptV_l, ↓vcA, vcB, ↓vcD, vcE, ↓reduceIte, Nat.reduceEqDiff, Nat.reduceAdd, Nat.reduceMul, Nat.reduceLeDiff, Int.reduceLE, Int.reduceLT, Int.reduceEq, Int.reduceToNat, Int.reduceAdd, Int.reduceSub, Int.reduceMul, Int.reduceNeg, reduceCtorEq, Option.bind_some, Option.map_some, List.length_cons, List.length_nil, vcM, List.getElem?_toArray, List.getElem?_cons_zero, List.getElem?_cons_succ])
  refine callV_ret (open_ok' w2 p r _ d0 J0 hD2 hG0.inv hG0.queue hG0.alive) ?_
  intro u w3 hO
  have z1 := hE1.size
  obtain ⟨jp, sv, rv, rfl, hS3, hE3, _, _⟩ := OpenR.sys (base := w.heap.size) hD2 (hE1.ext hE2).size (fun g hg => by rcases hg with rfl | rfl | hg; omega; omega; cases hg) hO
  first | (simp (disch := first | omega | assumption | rfl | (simp only [vcS] <;> omega) | fail) only [↓ptV_l, ↓vcA, vcB, ↓vcD, vcE, ↓reduceIte, Nat.reduceEqDiff, Nat.reduceAdd, Nat.reduceMul, Nat.reduceLeDiff, Int.reduceLE, Int.reduceLT, Int.reduceEq, Int.reduceToNat, Int.reduceAdd, Int.reduceSub, Int.reduceMul, Int.reduceNeg, reduceCtorEq, Option.bind_some, Option.map_some, List.length_cons, List.length_nil, vcM, List.getElem?_toArray, List.getElem?_cons_zero, List.getElem?_cons_succ]) | skip
  (refine W_at c5_ok ?_; refine ⟨_, rfl, ?_⟩; simp (disch := first | omega | assumption | rfl | (simp only [vcS] <;> omega) | fail) only [↓ptV_l, ↓vcA, vcB, ↓vcD, vcE, ↓reduceIte, Nat.reduceEqDiff, Nat.reduceAdd, Nat.reduceMul, Nat.reduceLeDiff, Int.reduceLE, Int.reduceLT, Int.reduceEq, Int.reduceToNat, Int.reduceAdd, Int.reduceSub, Int.reduceMul, Int.reduceNeg, reduceCtorEq, Option.bind_some, Option.map_some, List.length_cons, List.length_nil, vcM, List.getElem?_toArray, List.getElem?_cons_zero, List.getElem?_cons_succ])
  (refine W_at c5_ok ?_; refine ⟨_, rfl, ?_⟩; simp (disch := first | omega | assumption | rfl | (simp only [vcS] <;> omega) | fail) only [↓ptV_l, ↓vcA, vcB, ↓vcD, vcE, ↓reduceIte, Nat.reduceEqDiff, Nat.reduceAdd, Nat.reduceMul, Nat.reduceLeDiff, Int.reduceLE, Int.reduceLT, Int.reduceEq, Int.reduceToNat, Int.reduceAdd, Int.reduceSub, Int.reduceMul, Int.reduceNeg, reduceCtorEq, Option.bind_some, Option.map_some, List.length_cons, List.length_nil, vcM, List.getElem?_toArray, List.getElem?_cons_zero, List.getElem?_cons_succ])
  (refine W_at c5_ok ?_; refine ⟨_, rfl, ?_⟩; simp (disch := first | omega | assumption | rfl | (simp only [vcS] <;> omega) | fail) only [↓ptV_l, ↓vcA, vcB, ↓vcD, vcE, ↓reduceIte, Nat.reduceEqDiff, Nat.reduceAdd, Nat.reduceMul, Nat.reduceLeDiff, Int.reduceLE, Int.reduceLT, Int.reduceEq, Int.reduceToNat, Int.reduceAdd, Int.reduceSub, Int.reduceMul, Int.reduceNeg, reduceCtorEq, Option.bind_some, Option.map_some, List.length_cons, List.length_nil, vcM, List.getElem?_toArray, List.getElem?_cons_zero, List.getElem?_cons_succ])
  (refine W_at c5_ok ?_; refine ⟨_, rfl, ?_⟩; simp (disch := first | omega | assumption | rfl | (simp only [vcS] <;> omega) | fail) only [↓ptV_l, ↓vcA, vcB, ↓vcD, vcE, ↓reduceIte, Nat.reduceEqDiff, Nat.reduceAdd, Nat.reduceMul, Nat.reduceLeDiff, Int.reduceLE, Int.reduceLT, Int.reduceEq, Int.reduceToNat, Int.reduceAdd, Int.reduceSub, Int.reduceMul, Int.reduceNeg, reduceCtorEq, Option.bind_some, Option.map_some, List.length_cons, List.length_nil, vcM, List.getElem?_toArray, List.getElem?_cons_zero, List.getElem?_cons_succ])
  have hE4 : Ext w3 (w3.alloc (.cells (zc [(2, .slice none 0 0)]) 33)) := (Keep.refl _ w3).alloc _
  have hp6 : Box (w3.alloc (.cells (zc [(2, .slice none 0 0)]) 33)) w3.heap.size (.slice none 0 0) (.slice none 0 0) := heap_new _ _ _ rfl
  have hp6b : w.heap.size ≤ w3.heap.size := ((hE1.ext hE2).ext hE3).size
  have hEE4 : Ext w (w3.alloc (.cells (zc [(2, .slice none 0 0)]) 33)) := ((hE1.ext hE2).ext hE3).ext hE4
  have hS4 := hS3.ext hE4
  generalize World.alloc _ _ = w4 at hE4 hp6 hEE4 hS4 ⊢
  generalize w3.heap.size = p6 at hp6 hp6b ⊢
  have hsz : ∀ a b : Value, (#[a, b] : Array Value).size = 2 := fun _ _ => rfl
  have hex : ∀ a b : Value, (#[a, b] : Array Value).extract 0 (0 + 2) = #[a, b] := fun _ _ => rfl
  have hrd : ∀ a b : Value, rdO (some (Obj.cells #[a, b] 33 (0, 0))) 0 2 = some #[a, b] := fun a b => rdO_some _ _ _ _ _ (by show 0 + 2 ≤ 2; omega)
  have hok : ∀ a b : Value, okO (some (Obj.cells #[a, b] 33 (0, 0))) 0 2 = True := fun _ _ => by simp [okO]
  have L : ∀ (k j : Nat) (wj : World) (jp : Nat) (sv rv qv sw rw : Value) (J : JS) (d : DS), k + j = 25 → JSys w.heap.size wj jp p r sv rv qv J d → Good d J → d.left = -1 → d.n = 1200 → Small J j 300 →
      TAt (fun g => ¬ blk rv g) wj sw rw J.state J.recs → Box wj p6 sw rw → Ext w wj →
      W Try.prog (Ret fun u w' => u = .bool true ∧ Ext w w') 5 50 [(0, .slice q nn c), (3, .pointer (some ⟨p, 0, none⟩)), (4, .pointer (some ⟨jp, 0, none⟩)), (6, .pointer (some ⟨p6, 0, none⟩)), (7, .int .i64 (j : Nat))] wj := by
    intro k
    induction k with
    | zero =>
      intro j wj jp sv rv qv sw rw J d hj hS hG hl hn hsm hT h6 hE
      have c2 : ¬ ((j : Nat) : Int) < 25 := by omega
      by_cases c1 : ((j : Nat) : Int) < (nn : Nat)
      · (refine W_at c5_ok ?_; refine ⟨_, rfl, ?_⟩; simp (disch := first | omega | assumption | rfl | (simp only [vcS] <;> omega) | fail) only [↓ptV_l, ↓vcA, vcB, ↓vcD, vcE, ↓reduceIte, Nat.reduceEqDiff, Nat.reduceAdd, Nat.reduceMul, Nat.reduceLeDiff, Int.reduceLE, Int.reduceLT, Int.reduceEq, Int.reduceToNat, Int.reduceAdd, Int.reduceSub, Int.reduceMul, Int.reduceNeg, reduceCtorEq, Option.bind_some, Option.map_some, List.length_cons, List.length_nil, vcM, List.getElem?_toArray, List.getElem?_cons_zero, List.getElem?_cons_succ, c1, c2])
        (refine W_at c5_ok ?_; refine ⟨_, rfl, ?_⟩; simp (disch := first | omega | assumption | rfl | (simp only [vcS] <;> omega) | fail) only [↓ptV_l, ↓vcA, vcB, ↓vcD, vcE, ↓reduceIte, Nat.reduceEqDiff, Nat.reduceAdd, Nat.reduceMul, Nat.reduceLeDiff, Int.reduceLE, Int.reduceLT, Int.reduceEq, Int.reduceToNat, Int.reduceAdd, Int.reduceSub, Int.reduceMul, Int.reduceNeg, reduceCtorEq, Option.bind_some, Option.map_some, List.length_cons, List.length_nil, vcM, List.getElem?_toArray, List.getElem?_cons_zero, List.getElem?_cons_succ])
        (refine W_at c5_ok ?_; refine ⟨_, rfl, ?_⟩; simp (disch := first | omega | assumption | rfl | (simp only [vcS] <;> omega) | fail) only [↓ptV_l, ↓vcA, vcB, ↓vcD, vcE, ↓reduceIte, Nat.reduceEqDiff, Nat.reduceAdd, Nat.reduceMul, Nat.reduceLeDiff, Int.reduceLE, Int.reduceLT, Int.reduceEq, Int.reduceToNat, Int.reduceAdd, Int.reduceSub, Int.reduceMul, Int.reduceNeg, reduceCtorEq, Option.bind_some, Option.map_some, List.length_cons, List.length_nil, vcM, List.getElem?_toArray, List.getElem?_cons_zero, List.getElem?_cons_succ])
        (refine W_at c5_ok ?_; refine ⟨_, rfl, ?_⟩; simp (disch := first | omega | assumption | rfl | (simp only [vcS] <;> omega) | fail) only [↓ptV_l, ↓vcA, vcB, ↓vcD, vcE, ↓reduceIte, Nat.reduceEqDiff, Nat.reduceAdd, Nat.reduceMul, Nat.reduceLeDiff, Int.reduceLE, Int.reduceLT, Int.reduceEq, Int.reduceToNat, Int.reduceAdd, Int.reduceSub, Int.reduceMul, Int.reduceNeg, reduceCtorEq, Option.bind_some, Option.map_some, List.length_cons, List.length_nil, vcM, List.getElem?_toArray, List.getElem?_cons_zero, List.getElem?_cons_succ, Ret_returned])
        exact hE
      · (refine W_at c5_ok ?_; refine ⟨_, rfl, ?_⟩; simp (disch := first | omega | assumption | rfl | (simp only [vcS] <;> omega) | fail) only [↓ptV_l, ↓vcA, vcB, ↓vcD, vcE, ↓reduceIte, Nat.reduceEqDiff, Nat.reduceAdd, Nat.reduceMul, Nat.reduceLeDiff, Int.reduceLE, Int.reduceLT, Int.reduceEq, Int.reduceToNat, Int.reduceAdd, Int.reduceSub, Int.reduceMul, Int.reduceNeg, reduceCtorEq, Option.bind_some, Option.map_some, List.length_cons, List.length_nil, vcM, List.getElem?_toArray, List.getElem?_cons_zero, List.getElem?_cons_succ, c1])
        (refine W_at c5_ok ?_; refine ⟨_, rfl, ?_⟩; simp (disch := first | omega | assumption | rfl | (simp only [vcS] <;> omega) | fail) only [↓ptV_l, ↓vcA, vcB, ↓vcD, vcE, ↓reduceIte, Nat.reduceEqDiff, Nat.reduceAdd, Nat.reduceMul, Nat.reduceLeDiff, Int.reduceLE, Int.reduceLT, Int.reduceEq, Int.reduceToNat, Int.reduceAdd, Int.reduceSub, Int.reduceMul, Int.reduceNeg, reduceCtorEq, Option.bind_some, Option.map_some, List.length_cons, List.length_nil, vcM, List.getElem?_toArray, List.getElem?_cons_zero, List.getElem?_cons_succ])
        (refine W_at c5_ok ?_; refine ⟨_, rfl, ?_⟩; simp (disch := first | omega | assumption | rfl | (simp only [vcS] <;> omega) | fail) only [↓ptV_l, ↓vcA, vcB, ↓vcD, vcE, ↓reduceIte, Nat.reduceEqDiff, Nat.reduceAdd, Nat.reduceMul, Nat.reduceLeDiff, Int.reduceLE, Int.reduceLT, Int.reduceEq, Int.reduceToNat, Int.reduceAdd, Int.reduceSub, Int.reduceMul, Int.reduceNeg, reduceCtorEq, Option.bind_some, Option.map_some, List.length_cons, List.length_nil, vcM, List.getElem?_toArray, List.getElem?_cons_zero, List.getElem?_cons_succ])
        (refine W_at c5_ok ?_; refine ⟨_, rfl, ?_⟩; simp (disch := first | omega | assumption | rfl | (simp only [vcS] <;> omega) | fail) only [↓ptV_l, ↓vcA, vcB, ↓vcD, vcE, ↓reduceIte, Nat.reduceEqDiff, Nat.reduceAdd, Nat.reduceMul, Nat.reduceLeDiff, Int.reduceLE, Int.reduceLT, Int.reduceEq, Int.reduceToNat, Int.reduceAdd, Int.reduceSub, Int.reduceMul, Int.reduceNeg, reduceCtorEq, Option.bind_some, Option.map_some, List.length_cons, List.length_nil, vcM, List.getElem?_toArray, List.getElem?_cons_zero, List.getElem?_cons_succ, Ret_returned])
        exact hE
    | succ k ih =>
      intro j wj jp sv rv qv sw rw J d hj hS hG hl hn hsm hT h6 hE
      have c2 : ((j : Nat) : Int) < 25 := by omega
      by_cases c1 : ((j : Nat) : Int) < (nn : Nat)
      case neg =>
        (refine W_at c5_ok ?_; refine ⟨_, rfl, ?_⟩; simp (disch := first | omega | assumption | rfl | (simp only [vcS] <;> omega) | fail) only [↓ptV_l, ↓vcA, vcB, ↓vcD, vcE, ↓reduceIte, Nat.reduceEqDiff, Nat.reduceAdd, Nat.reduceMul, Nat.reduceLeDiff, Int.reduceLE, Int.reduceLT, Int.reduceEq, Int.reduceToNat, Int.reduceAdd, Int.reduceSub, Int.reduceMul, Int.reduceNeg, reduceCtorEq, Option.bind_some, Option.map_some, List.length_cons, List.length_nil, vcM, List.getElem?_toArray, List.getElem?_cons_zero, List.getElem?_cons_succ, c1])
        (refine W_at c5_ok ?_; refine ⟨_, rfl, ?_⟩; simp (disch := first | omega | assumption | rfl | (simp only [vcS] <;> omega) | fail) only [↓ptV_l, ↓vcA, vcB, ↓vcD, vcE, ↓reduceIte, Nat.reduceEqDiff, Nat.reduceAdd, Nat.reduceMul, Nat.reduceLeDiff, Int.reduceLE, Int.reduceLT, Int.reduceEq, Int.reduceToNat, Int.reduceAdd, Int.reduceSub, Int.reduceMul, Int.reduceNeg, reduceCtorEq, Option.bind_some, Option.map_some, List.length_cons, List.length_nil, vcM, List.getElem?_toArray, List.getElem?_cons_zero, List.getElem?_cons_succ])
        (refine W_at c5_ok ?_; refine ⟨_, rfl, ?_⟩; simp (disch := first | omega | assumption | rfl | (simp only [vcS] <;> omega) | fail) only [↓ptV_l, ↓vcA, vcB, ↓vcD, vcE, ↓reduceIte, Nat.reduceEqDiff, Nat.reduceAdd, Nat.reduceMul, Nat.reduceLeDiff, Int.reduceLE, Int.reduceLT, Int.reduceEq, Int.reduceToNat, Int.reduceAdd, Int.reduceSub, Int.reduceMul, Int.reduceNeg, reduceCtorEq, Option.bind_some, Option.map_some, List.length_cons, List.length_nil, vcM, List.getElem?_toArray, List.getElem?_cons_zero, List.getElem?_cons_succ])
        (refine W_at c5_ok ?_; refine ⟨_, rfl, ?_⟩; simp (disch := first | omega | assumption | rfl | (simp only [vcS] <;> omega) | fail) only [↓ptV_l, ↓vcA, vcB, ↓vcD, vcE, ↓reduceIte, Nat.reduceEqDiff, Nat.reduceAdd, Nat.reduceMul, Nat.reduceLeDiff, Int.reduceLE, Int.reduceLT, Int.reduceEq, Int.reduceToNat, Int.reduceAdd, Int.reduceSub, Int.reduceMul, Int.reduceNeg, reduceCtorEq, Option.bind_some, Option.map_some, List.length_cons, List.length_nil, vcM, List.getElem?_toArray, List.getElem?_cons_zero, List.getElem?_cons_succ, Ret_returned])
        exact hE
      have hwj : IntKind.i64.wrap (((j : Nat) : Int) + 1) = ((j + 1 : Nat) : Int) := wrap_i64 (by omega) (by omega)
      obtain ⟨gb, go, kind, arm, kp, torn, again, v, bs, hq, hr, hact⟩ := hA.act hE (i := j) (by omega)
      have cw : 0 ≤ ((j : Nat) : Int) ∧ ((j : Nat) : Int) < (nn : Nat) := by omega
      subst hq
      have hv1 := hact.rd.one
      have hbl : (bs.take 300).length ≤ 300 := by rw [List.length_take]; omega
      have hbb : byt (bs.take 300) := byt_take hact.by' _
      generalize hb' : bs.take 300 = b at hbl hbb
      have hx6 : (#[Value.int .i64 kind, .int .i64 arm, .int .i64 kp, .int .i64 torn, .int .i64 again, v] : Array Value).extract 0 (0 + 6) = #[Value.int .i64 kind, .int .i64 arm, .int .i64 kp, .int .i64 torn, .int .i64 again, v] := rfl
      have s6 : (#[Value.int .i64 kind, .int .i64 arm, .int .i64 kp, .int .i64 torn, .int .i64 again, v] : Array Value).size = 6 := rfl
      have hok6 : ∀ c : Array Value, c.size = 6 → okO (some (Obj.cells c 36 (0, 0))) 0 6 = True := fun c hc => by simp [okO, hc]
      -- the last check
      have last : ∀ (wz : World) (jp p11 : Nat) (sv rv qv s1 r1 sx rx : Value) (J : JS) (d : DS) (B : Nat → Prop) (tl : Env), JSys w.heap.size wz jp p r sv rv qv J d → Good d J → d.left = -1 → d.n = 1200 → Small J (j + 1) 300 →
          TAt B wz s1 r1 J.state J.recs → TAt (fun g => ¬ blk rv g) wz sx rx J.state J.recs → Box wz p6 sx rx → Box wz p11 s1 r1 → Ext w wz →
          W Try.prog (Ret fun u w' => u = .bool true ∧ Ext w w') 5 8 ((0, .slice (some ⟨gb, go, none⟩) nn c) :: (3, .pointer (some ⟨p, 0, none⟩)) :: (4, .pointer (some ⟨jp, 0, none⟩)) :: (6, .pointer (some ⟨p6, 0, none⟩)) :: (7, .int .i64 (j : Nat)) :: (11, .pointer (some ⟨p11, 0, none⟩)) :: tl) wz := by
        intro wz jp p11 sv rv qv s1 r1 sx rx J d B tl hS hG hl hn hsm hT1 hT h6 h11 hE
        have hby := hG.byts
        have hsmr := hsm.recs
        (refine W_at c5_ok ?_; refine ⟨_, rfl, ?_⟩; simp (disch := first | omega | assumption | rfl | (simp only [vcS] <;> omega) | fail) only [↓ptV_l, ↓vcA, vcB, ↓vcD, vcE, ↓reduceIte, Nat.reduceEqDiff, Nat.reduceAdd, Nat.reduceMul, Nat.reduceLeDiff, Int.reduceLE, Int.reduceLT, Int.reduceEq, Int.reduceToNat, Int.reduceAdd, Int.reduceSub, Int.reduceMul, Int.reduceNeg, reduceCtorEq, Option.bind_some, Option.map_some, List.length_cons, List.length_nil, vcM, List.getElem?_toArray, List.getElem?_cons_zero, List.getElem?_cons_succ, h6, h11, hrd])
        refine callV_ret (rsame_ok wz _ _ s1 r1 sx rx J.state J.state J.recs J.recs hT1 hT hby.1 hby.1 hby.2 hby.2 (by omega)) ?_
        rintro _ wn ⟨rfl, hEn⟩
        rw [show decide (J.state = J.state ∧ J.recs = J.recs) = true from decide_eq_true ⟨rfl, rfl⟩]
        first | (simp (disch := first | omega | assumption | rfl | (simp only [vcS] <;> omega) | fail) only [↓ptV_l, ↓vcA, vcB, ↓vcD, vcE, ↓reduceIte, Nat.reduceEqDiff, Nat.reduceAdd, Nat.reduceMul, Nat.reduceLeDiff, Int.reduceLE, Int.reduceLT, Int.reduceEq, Int.reduceToNat, Int.reduceAdd, Int.reduceSub, Int.reduceMul, Int.reduceNeg, reduceCtorEq, Option.bind_some, Option.map_some, List.length_cons, List.length_nil, vcM, List.getElem?_toArray, List.getElem?_cons_zero, List.getElem?_cons_succ]) | skip
        (refine W_at c5_ok ?_; refine ⟨_, rfl, ?_⟩; simp (disch := first | omega | assumption | rfl | (simp only [vcS] <;> omega) | fail) only [↓ptV_l, ↓vcA, vcB, ↓vcD, vcE, ↓reduceIte, Nat.reduceEqDiff, Nat.reduceAdd, Nat.reduceMul, Nat.reduceLeDiff, Int.reduceLE, Int.reduceLT, Int.reduceEq, Int.reduceToNat, Int.reduceAdd, Int.reduceSub, Int.reduceMul, Int.reduceNeg, reduceCtorEq, Option.bind_some, Option.map_some, List.length_cons, List.length_nil, vcM, List.getElem?_toArray, List.getElem?_cons_zero, List.getElem?_cons_succ])
        (refine W_at c5_ok ?_; refine ⟨_, rfl, ?_⟩; simp (disch := first | omega | assumption | rfl | (simp only [vcS] <;> omega) | fail) only [↓ptV_l, ↓vcA, vcB, ↓vcD, vcE, ↓reduceIte, Nat.reduceEqDiff, Nat.reduceAdd, Nat.reduceMul, Nat.reduceLeDiff, Int.reduceLE, Int.reduceLT, Int.reduceEq, Int.reduceToNat, Int.reduceAdd, Int.reduceSub, Int.reduceMul, Int.reduceNeg, reduceCtorEq, Option.bind_some, Option.map_some, List.length_cons, List.length_nil, vcM, List.getElem?_toArray, List.getElem?_cons_zero, List.getElem?_cons_succ, hwj])
        (refine W_at c5_ok ?_; refine ⟨_, rfl, ?_⟩; simp (disch := first | omega | assumption | rfl | (simp only [vcS] <;> omega) | fail) only [↓ptV_l, ↓vcA, vcB, ↓vcD, vcE, ↓reduceIte, Nat.reduceEqDiff, Nat.reduceAdd, Nat.reduceMul, Nat.reduceLeDiff, Int.reduceLE, Int.reduceLT, Int.reduceEq, Int.reduceToNat, Int.reduceAdd, Int.reduceSub, Int.reduceMul, Int.reduceNeg, reduceCtorEq, Option.bind_some, Option.map_some, List.length_cons, List.length_nil, vcM, List.getElem?_toArray, List.getElem?_cons_zero, List.getElem?_cons_succ])
        exact ih (j + 1) wn jp sv rv qv sx rx J d (by omega) (hS.ext hEn) hG hl hn hsm (hT.ext hEn) (hEn.at h6 fun h => h) (hE.ext hEn)
      -- the last check, another way
      have last2 : ∀ (wz : World) (jp p10 p11 : Nat) (sv rv qv s1 r1 sx rx : Value) (J : JS) (d : DS) (B : Nat → Prop) (tl : Env), JSys w.heap.size wz jp p r sv rv qv J d → Good d J → d.left = -1 → d.n = 1200 → Small J (j + 1) 300 →
          TAt B wz s1 r1 J.state J.recs → TAt (fun g => ¬ blk rv g) wz sx rx J.state J.recs → Box wz p6 sx rx → Box wz p11 s1 r1 → Ext w wz →
          W Try.prog (Ret fun u w' => u = .bool true ∧ Ext w w') 5 8 ((0, .slice (some ⟨gb, go, none⟩) nn c) :: (3, .pointer (some ⟨p, 0, none⟩)) :: (4, .pointer (some ⟨jp, 0, none⟩)) :: (6, .pointer (some ⟨p6, 0, none⟩)) :: (7, .int .i64 (j : Nat)) :: (10, .pointer (some ⟨p10, 0, none⟩)) :: (11, .pointer (some ⟨p11, 0, none⟩)) :: tl) wz := by
        intro wz jp p10 p11 sv rv qv s1 r1 sx rx J d B tl hS hG hl hn hsm hT1 hT h6 h11 hE
        have hby := hG.byts
        have hsmr := hsm.recs
        (refine W_at c5_ok ?_; refine ⟨_, rfl, ?_⟩; simp (disch := first | omega | assumption | rfl | (simp only [vcS] <;> omega) | fail) only [↓ptV_l, ↓vcA, vcB, ↓vcD, vcE, ↓reduceIte, Nat.reduceEqDiff, Nat.reduceAdd, Nat.reduceMul, Nat.reduceLeDiff, Int.reduceLE, Int.reduceLT, Int.reduceEq, Int.reduceToNat, Int.reduceAdd, Int.reduceSub, Int.reduceMul, Int.reduceNeg, reduceCtorEq, Option.bind_some, Option.map_some, List.length_cons, List.length_nil, vcM, List.getElem?_toArray, List.getElem?_cons_zero, List.getElem?_cons_succ, h6, h11, hrd])
        refine callV_ret (rsame_ok wz _ _ s1 r1 sx rx J.state J.state J.recs J.recs hT1 hT hby.1 hby.1 hby.2 hby.2 (by omega)) ?_
        rintro _ wn ⟨rfl, hEn⟩
        rw [show decide (J.state = J.state ∧ J.recs = J.recs) = true from decide_eq_true ⟨rfl, rfl⟩]
        first | (simp (disch := first | omega | assumption | rfl | (simp only [vcS] <;> omega) | fail) only [↓ptV_l, ↓vcA, vcB, ↓vcD, vcE, ↓reduceIte, Nat.reduceEqDiff, Nat.reduceAdd, Nat.reduceMul, Nat.reduceLeDiff, Int.reduceLE, Int.reduceLT, Int.reduceEq, Int.reduceToNat, Int.reduceAdd, Int.reduceSub, Int.reduceMul, Int.reduceNeg, reduceCtorEq, Option.bind_some, Option.map_some, List.length_cons, List.length_nil, vcM, List.getElem?_toArray, List.getElem?_cons_zero, List.getElem?_cons_succ]) | skip
        (refine W_at c5_ok ?_; refine ⟨_, rfl, ?_⟩; simp (disch := first | omega | assumption | rfl | (simp only [vcS] <;> omega) | fail) only [↓ptV_l, ↓vcA, vcB, ↓vcD, vcE, ↓reduceIte, Nat.reduceEqDiff, Nat.reduceAdd, Nat.reduceMul, Nat.reduceLeDiff, Int.reduceLE, Int.reduceLT, Int.reduceEq, Int.reduceToNat, Int.reduceAdd, Int.reduceSub, Int.reduceMul, Int.reduceNeg, reduceCtorEq, Option.bind_some, Option.map_some, List.length_cons, List.length_nil, vcM, List.getElem?_toArray, List.getElem?_cons_zero, List.getElem?_cons_succ])
        (refine W_at c5_ok ?_; refine ⟨_, rfl, ?_⟩; simp (disch := first | omega | assumption | rfl | (simp only [vcS] <;> omega) | fail) only [↓ptV_l, ↓vcA, vcB, ↓vcD, vcE, ↓reduceIte, Nat.reduceEqDiff, Nat.reduceAdd, Nat.reduceMul, Nat.reduceLeDiff, Int.reduceLE, Int.reduceLT, Int.reduceEq, Int.reduceToNat, Int.reduceAdd, Int.reduceSub, Int.reduceMul, Int.reduceNeg, reduceCtorEq, Option.bind_some, Option.map_some, List.length_cons, List.length_nil, vcM, List.getElem?_toArray, List.getElem?_cons_zero, List.getElem?_cons_succ, hwj])
        (refine W_at c5_ok ?_; refine ⟨_, rfl, ?_⟩; simp (disch := first | omega | assumption | rfl | (simp only [vcS] <;> omega) | fail) only [↓ptV_l, ↓vcA, vcB, ↓vcD, vcE, ↓reduceIte, Nat.reduceEqDiff, Nat.reduceAdd, Nat.reduceMul, Nat.reduceLeDiff, Int.reduceLE, Int.reduceLT, Int.reduceEq, Int.reduceToNat, Int.reduceAdd, Int.reduceSub, Int.reduceMul, Int.reduceNeg, reduceCtorEq, Option.bind_some, Option.map_some, List.length_cons, List.length_nil, vcM, List.getElem?_toArray, List.getElem?_cons_zero, List.getElem?_cons_succ])
        exact ih (j + 1) wn jp sv rv qv sx rx J d (by omega) (hS.ext hEn) hG hl hn hsm (hT.ext hEn) (hEn.at h6 fun h => h) (hE.ext hEn)
      -- a disk that is opened again
      have re : ∀ (wk : World) (jp p10 p8 : Nat) (sv rv qv sw rw sn rn : Value) (Jn : JS) (d1 : DS) (e : Int) (tl : Env), DAt wk p r qv d1 → (∀ g, DB p r qv g → w.heap.size ≤ g) → d1.Ok → d1.n = 1200 → (∀ keep torn, JInv (crashD d1 keep torn) J ∨ JInv (crashD d1 keep torn) Jn) →
          ((e = 0 ∧ Jn = J) ∨ e = 10) → Small J (j + 1) 300 → Small Jn (j + 1) 300 → (byt Jn.state ∧ ∀ b ∈ Jn.recs, byt b) → TAt (fun g => ¬ blk rv g) wk sw rw J.state J.recs → TAt (fun g => ¬ blk rv g) wk sn rn Jn.state Jn.recs → Box wk p6 sw rw → Box wk p10 sn rn → p10 ≠ p6 →
          wk.heap[p8]? = some (.cells #[Value.int .i64 kind, .int .i64 arm, .int .i64 kp, .int .i64 torn, .int .i64 again, v] 36 (0, 0)) → Ext w wk →
          W Try.prog (Ret fun u w' => u = .bool true ∧ Ext w w') 5 20 ((0, .slice (some ⟨gb, go, none⟩) nn c) :: (3, .pointer (some ⟨p, 0, none⟩)) :: (4, .pointer (some ⟨jp, 0, none⟩)) :: (5, .int .i64 e) :: (6, .pointer (some ⟨p6, 0, none⟩)) :: (7, .int .i64 (j : Nat)) :: (8, .pointer (some ⟨p8, 0, none⟩)) :: (10, .pointer (some ⟨p10, 0, none⟩)) :: tl) wk := by
        intro wk jp p10 p8 sv rv qv sw rw sn rn Jn d1 e tl hD hB hko hn hC he hsJ hsN hbn hTw hTn h6 h10 h106 hb8 hE
        have hrd6 : rdO (some (Obj.cells #[Value.int .i64 kind, .int .i64 arm, .int .i64 kp, .int .i64 torn, .int .i64 again, v] 36 (0, 0))) 0 6 = some #[Value.int .i64 kind, .int .i64 arm, .int .i64 kp, .int .i64 torn, .int .i64 again, v] := rdO_some _ _ _ _ _ (by show 0 + 6 ≤ 6; omega)
        (refine W_at c5_ok ?_; refine ⟨_, rfl, ?_⟩; simp (disch := first | omega | assumption | rfl | (simp only [vcS] <;> omega) | fail) only [↓ptV_l, ↓vcA, vcB, ↓vcD, vcE, ↓reduceIte, Nat.reduceEqDiff, Nat.reduceAdd, Nat.reduceMul, Nat.reduceLeDiff, Int.reduceLE, Int.reduceLT, Int.reduceEq, Int.reduceToNat, Int.reduceAdd, Int.reduceSub, Int.reduceMul, Int.reduceNeg, reduceCtorEq, Option.bind_some, Option.map_some, List.length_cons, List.length_nil, vcM, List.getElem?_toArray, List.getElem?_cons_zero, List.getElem?_cons_succ, hb8, hrd6])
        refine callV_ret (reopen_ok wk w.heap.size p r qv d1 kind arm kp torn again v (fun J' => J' = J ∨ J' = Jn) hD hko hB hE.size hv1 hact.keep hact.again fun keep torn => ?_) ?_
        · rcases hC keep torn with h | h
          · exact ⟨J, .inl rfl, h⟩
          · exact ⟨Jn, .inr rfl, h⟩
        rintro _ wl ⟨jp', sv', rv', qv', d', J', hJ', rfl, hS', hG', hl', hn', hK, hrn, hjn⟩
        have nd : ∀ {g c t}, wk.heap[g]? = some (.cells c t (0, 0)) → t ≠ 58 → t ≠ 77 → ¬ DB p r qv g := fun hg h1 h2 => hD.nob hg h1 h2
        have h6l := hK.at h6 (nd h6 (by decide) (by decide))
        have h10l := hK.at h10 (nd h10 (by decide) (by decide))
        have hEl : Ext w wl := hE.trans hK fun i hi hg => by have := hB i hg; omega
        have hTwl := (hD.tat hK hTw.all).mono (B' := fun g => ¬ blk rv' g) fun x hx hb => by have := hrn x hb; omega
        have hTnl := (hD.tat hK hTn.all).mono (B' := fun g => ¬ blk rv' g) fun x hx hb => by have := hrn x hb; omega
        have hsJ' : Small J' (j + 1) 300 := by rcases hJ' with rfl | rfl <;> assumption
        have hsms := hsJ'.st
        have hsmr := hsJ'.recs
        have hby := hG'.byts
        rw [hn] at hn'
        first | (simp (disch := first | omega | assumption | rfl | (simp only [vcS] <;> omega) | fail) only [↓ptV_l, ↓vcA, vcB, ↓vcD, vcE, ↓reduceIte, Nat.reduceEqDiff, Nat.reduceAdd, Nat.reduceMul, Nat.reduceLeDiff, Int.reduceLE, Int.reduceLT, Int.reduceEq, Int.reduceToNat, Int.reduceAdd, Int.reduceSub, Int.reduceMul, Int.reduceNeg, reduceCtorEq, Option.bind_some, Option.map_some, List.length_cons, List.length_nil, vcM, List.getElem?_toArray, List.getElem?_cons_zero, List.getElem?_cons_succ]) | skip
        (refine W_at c5_ok ?_; refine ⟨_, rfl, ?_⟩; simp (disch := first | omega | assumption | rfl | (simp only [vcS] <;> omega) | fail) only [↓ptV_l, ↓vcA, vcB, ↓vcD, vcE, ↓reduceIte, Nat.reduceEqDiff, Nat.reduceAdd, Nat.reduceMul, Nat.reduceLeDiff, Int.reduceLE, Int.reduceLT, Int.reduceEq, Int.reduceToNat, Int.reduceAdd, Int.reduceSub, Int.reduceMul, Int.reduceNeg, reduceCtorEq, Option.bind_some, Option.map_some, List.length_cons, List.length_nil, vcM, List.getElem?_toArray, List.getElem?_cons_zero, List.getElem?_cons_succ, eqP_pn])
        (refine W_at c5_ok ?_; refine ⟨_, rfl, ?_⟩; simp (disch := first | omega | assumption | rfl | (simp only [vcS] <;> omega) | fail) only [↓ptV_l, ↓vcA, vcB, ↓vcD, vcE, ↓reduceIte, Nat.reduceEqDiff, Nat.reduceAdd, Nat.reduceMul, Nat.reduceLeDiff, Int.reduceLE, Int.reduceLT, Int.reduceEq, Int.reduceToNat, Int.reduceAdd, Int.reduceSub, Int.reduceMul, Int.reduceNeg, reduceCtorEq, Option.bind_some, Option.map_some, List.length_cons, List.length_nil, vcM, List.getElem?_toArray, List.getElem?_cons_zero, List.getElem?_cons_succ])
        (refine W_at c5_ok ?_; refine ⟨_, rfl, ?_⟩; simp (disch := first | omega | assumption | rfl | (simp only [vcS] <;> omega) | fail) only [↓ptV_l, ↓vcA, vcB, ↓vcD, vcE, ↓reduceIte, Nat.reduceEqDiff, Nat.reduceAdd, Nat.reduceMul, Nat.reduceLeDiff, Int.reduceLE, Int.reduceLT, Int.reduceEq, Int.reduceToNat, Int.reduceAdd, Int.reduceSub, Int.reduceMul, Int.reduceNeg, reduceCtorEq, Option.bind_some, Option.map_some, List.length_cons, List.length_nil, vcM, List.getElem?_toArray, List.getElem?_cons_zero, List.getElem?_cons_succ])
        refine callV_ret (told_ok wl jp' p sv' rv' J' hS'.j (by omega) (by omega) (fun b hb => Nat.le_trans (hsJ'.len b hb) (by omega))) ?_
        rintro _ wm ⟨s1, r1, rfl, hT1, hEm⟩
        have h6m := hEm.at h6l (fun h => h)
        have h10m := hEm.at h10l (fun h => h)
        simp (disch := first | omega | assumption | rfl | (simp only [vcS] <;> omega) | fail) only [↓ptV_l, ↓vcA, vcB, ↓vcD, vcE, ↓reduceIte, Nat.reduceEqDiff, Nat.reduceAdd, Nat.reduceMul, Nat.reduceLeDiff, Int.reduceLE, Int.reduceLT, Int.reduceEq, Int.reduceToNat, Int.reduceAdd, Int.reduceSub, Int.reduceMul, Int.reduceNeg, reduceCtorEq, Option.bind_some, Option.map_some, List.length_cons, List.length_nil, vcM, List.getElem?_toArray, List.getElem?_cons_zero, List.getElem?_cons_succ, hsz]
        have hE11 : Ext wm ((wm.alloc (.cells (zc [(2, .slice none 0 0)]) 33)).putN wm.heap.size 0 #[s1, r1]) := ((Keep.refl _ wm).alloc _).putN _ (by intro hh; exfalso; omega)
        have h11 : Box ((wm.alloc (.cells (zc [(2, .slice none 0 0)]) 33)).putN wm.heap.size 0 #[s1, r1]) wm.heap.size s1 r1 := by
          show _ = _
          rw [heap_putN_eq (heap_new _ _ _ rfl), splice_all (by rfl)]
        refine ⟨⟨hT1.st.1.one, hT1.recs.one⟩, ?_⟩
        have h6lt := lt_of_heap h6m
        have h10lt := lt_of_heap h10m
        generalize hp11 : wm.heap.size = p11 at h11 hE11 h6lt h10lt ⊢
        generalize World.putN _ _ _ _ = wz at h11 hE11 ⊢
        have hElz : Ext wl wz := hEm.ext hE11
        have hSz := hS'.ext hElz
        have hTwz := hTwl.ext hElz
        have hTnz := hTnl.ext hElz
        have hT1z := hT1.ext hE11
        have h6z := hE11.at h6m (fun h => h)
        have h10z := hE11.at h10m (fun h => h)
        have hEz := hEl.ext hElz
        have put : ∀ (wy : World) (l : Nat) (tl : Env), Ext wz wy → J'.state = Jn.state → J'.recs = Jn.recs → ∀ wx, Keep (fun x => x = p6) wy wx → Box wx p6 sn rn →
            W Try.prog (Ret fun u w' => u = .bool true ∧ Ext w w') 5 8 ((0, .slice (some ⟨gb, go, none⟩) nn c) :: (3, .pointer (some ⟨p, 0, none⟩)) :: (4, .pointer (some ⟨jp', 0, none⟩)) :: (6, .pointer (some ⟨p6, 0, none⟩)) :: (7, .int .i64 (j : Nat)) :: (11, .pointer (some ⟨p11, 0, none⟩)) :: tl) wx := by
          intro wy l tl hEy e1 e2 wx k6 h6x
          have h6y := hEy.at h6z (fun h => h)
          refine last wx jp' p11 sv' rv' qv' s1 r1 sn rn J' d' _ tl ((hSz.ext hEy).box h6y k6) hG' hl' hn' hsJ' ((hT1z.ext hEy).box h6y k6) (by rw [e1, e2]; exact (hTnz.ext hEy).box h6y k6) h6x (k6.at (hEy.at h11 fun h => h) (by omega)) ((hEz.ext hEy).trans k6 fun i hi e => by omega)
        have put2 : ∀ (wy : World) (l : Nat) (tl : Env), Ext wz wy → J'.state = Jn.state → J'.recs = Jn.recs → ∀ wx, Keep (fun x => x = p6) wy wx → Box wx p6 sn rn →
            W Try.prog (Ret fun u w' => u = .bool true ∧ Ext w w') 5 8 ((0, .slice (some ⟨gb, go, none⟩) nn c) :: (3, .pointer (some ⟨p, 0, none⟩)) :: (4, .pointer (some ⟨jp', 0, none⟩)) :: (6, .pointer (some ⟨p6, 0, none⟩)) :: (7, .int .i64 (j : Nat)) :: (10, .pointer (some ⟨p10, 0, none⟩)) :: (11, .pointer (some ⟨p11, 0, none⟩)) :: tl) wx := by
          intro wy l tl hEy e1 e2 wx k6 h6x
          have h6y := hEy.at h6z (fun h => h)
          refine last2 wx jp' p10 p11 sv' rv' qv' s1 r1 sn rn J' d' _ tl ((hSz.ext hEy).box h6y k6) hG' hl' hn' hsJ' ((hT1z.ext hEy).box h6y k6) (by rw [e1, e2]; exact (hTnz.ext hEy).box h6y k6) h6x (k6.at (hEy.at h11 fun h => h) (by omega)) ((hEz.ext hEy).trans k6 fun i hi e => by omega)
        rcases he with ⟨rfl, rfl⟩ | rfl
        · have eJ : J' = Jn := by rcases hJ' with h | h <;> exact h
          subst eJ
          (refine W_at c5_ok ?_; refine ⟨_, rfl, ?_⟩; simp (disch := first | omega | assumption | rfl | (simp only [vcS] <;> omega) | fail) only [↓vcL1, ptS2_eq, ↓vcA, vcB, ↓vcD, vcE, ↓reduceIte, Nat.reduceEqDiff, Nat.reduceAdd, Nat.reduceMul, Nat.reduceLeDiff, Int.reduceLE, Int.reduceLT, Int.reduceEq, Int.reduceToNat, Int.reduceAdd, Int.reduceSub, Int.reduceMul, Int.reduceNeg, reduceCtorEq, Option.bind_some, Option.map_some, List.length_cons, List.length_nil, vcM, List.getElem?_toArray, List.getElem?_cons_zero, List.getElem?_cons_succ, eq_self])
          (refine W_at c5_ok ?_; refine ⟨_, rfl, ?_⟩; simp (disch := first | omega | assumption | rfl | (simp only [vcS] <;> omega) | fail) only [↓ptV_l, ↓vcA, vcB, ↓vcD, vcE, ↓reduceIte, Nat.reduceEqDiff, Nat.reduceAdd, Nat.reduceMul, Nat.reduceLeDiff, Int.reduceLE, Int.reduceLT, Int.reduceEq, Int.reduceToNat, Int.reduceAdd, Int.reduceSub, Int.reduceMul, Int.reduceNeg, reduceCtorEq, Option.bind_some, Option.map_some, List.length_cons, List.length_nil, vcM, List.getElem?_toArray, List.getElem?_cons_zero, List.getElem?_cons_succ])
          (refine W_at c5_ok ?_; refine ⟨_, rfl, ?_⟩; simp (disch := first | omega | assumption | rfl | (simp only [vcS] <;> omega) | fail) only [↓ptV_l, ↓vcA, vcB, ↓vcD, vcE, ↓reduceIte, Nat.reduceEqDiff, Nat.reduceAdd, Nat.reduceMul, Nat.reduceLeDiff, Int.reduceLE, Int.reduceLT, Int.reduceEq, Int.reduceToNat, Int.reduceAdd, Int.reduceSub, Int.reduceMul, Int.reduceNeg, reduceCtorEq, Option.bind_some, Option.map_some, List.length_cons, List.length_nil, vcM, List.getElem?_toArray, List.getElem?_cons_zero, List.getElem?_cons_succ, eq_self])
          (refine W_at c5_ok ?_; refine ⟨_, rfl, ?_⟩; simp (disch := first | omega | assumption | rfl | (simp only [vcS] <;> omega) | fail) only [↓ptV_l, ↓vcA, vcB, ↓vcD, vcE, ↓reduceIte, Nat.reduceEqDiff, Nat.reduceAdd, Nat.reduceMul, Nat.reduceLeDiff, Int.reduceLE, Int.reduceLT, Int.reduceEq, Int.reduceToNat, Int.reduceAdd, Int.reduceSub, Int.reduceMul, Int.reduceNeg, reduceCtorEq, Option.bind_some, Option.map_some, List.length_cons, List.length_nil, vcM, List.getElem?_toArray, List.getElem?_cons_zero, List.getElem?_cons_succ])
          (refine W_at c5_ok ?_; refine ⟨_, rfl, ?_⟩; simp (disch := first | omega | assumption | rfl | (simp only [vcS] <;> omega) | fail) only [↓ptV_l, ↓vcA, vcB, ↓vcD, vcE, ↓reduceIte, Nat.reduceEqDiff, Nat.reduceAdd, Nat.reduceMul, Nat.reduceLeDiff, Int.reduceLE, Int.reduceLT, Int.reduceEq, Int.reduceToNat, Int.reduceAdd, Int.reduceSub, Int.reduceMul, Int.reduceNeg, reduceCtorEq, Option.bind_some, Option.map_some, List.length_cons, List.length_nil, vcM, List.getElem?_toArray, List.getElem?_cons_zero, List.getElem?_cons_succ, h10z, h6z, hrd, hok, hsz])
          have k6 : Keep (fun x => x = p6) wz (wz.putN p6 0 #[sn, rn]) := (Keep.refl _ wz).putN _ fun _ => rfl
          have h6x : Box (wz.putN p6 0 #[sn, rn]) p6 sn rn := by show _ = _; rw [heap_putN_eq h6z, splice_all (by rfl)]
          refine ⟨⟨hTnz.st.1.one, hTnz.recs.one⟩, ?_⟩
          exact put wz 0 [] (Keep.refl _ wz) rfl rfl _ k6 h6x
        · (refine W_at c5_ok ?_; refine ⟨_, rfl, ?_⟩; simp (disch := first | omega | assumption | rfl | (simp only [vcS] <;> omega) | fail) only [↓vcL1, ptS2_eq, ↓vcA, vcB, ↓vcD, vcE, ↓reduceIte, Nat.reduceEqDiff, Nat.reduceAdd, Nat.reduceMul, Nat.reduceLeDiff, Int.reduceLE, Int.reduceLT, Int.reduceEq, Int.reduceToNat, Int.reduceAdd, Int.reduceSub, Int.reduceMul, Int.reduceNeg, reduceCtorEq, Option.bind_some, Option.map_some, List.length_cons, List.length_nil, vcM, List.getElem?_toArray, List.getElem?_cons_zero, List.getElem?_cons_succ, h11, h10z, hrd])
          refine callV_ret (rsame_ok wz _ _ s1 r1 sn rn J'.state Jn.state J'.recs Jn.recs hT1z hTnz hby.1 hbn.1 hby.2 hbn.2 (by omega)) ?_
          rintro _ wy ⟨rfl, hEy⟩
          have h6y := hEy.at h6z (fun h => h)
          have h10y := hEy.at h10z (fun h => h)
          have hTny := hTnz.ext hEy
          by_cases hsame : J'.state = Jn.state ∧ J'.recs = Jn.recs
          · rw [decide_eq_true hsame]
            simp (disch := first | omega | assumption | rfl | (simp only [vcS] <;> omega) | fail) only [↓vcL2, ptS1_eq, ↓vcA, vcB, ↓vcD, vcE, ↓reduceIte, Nat.reduceEqDiff, Nat.reduceAdd, Nat.reduceMul, Nat.reduceLeDiff, Int.reduceLE, Int.reduceLT, Int.reduceEq, Int.reduceToNat, Int.reduceAdd, Int.reduceSub, Int.reduceMul, Int.reduceNeg, reduceCtorEq, Option.bind_some, Option.map_some, List.length_cons, List.length_nil, vcM, List.getElem?_toArray, List.getElem?_cons_zero, List.getElem?_cons_succ]
            (refine W_at c5_ok ?_; refine ⟨_, rfl, ?_⟩; simp (disch := first | omega | assumption | rfl | (simp only [vcS] <;> omega) | fail) only [↓ptV_l, ↓vcA, vcB, ↓vcD, vcE, ↓reduceIte, Nat.reduceEqDiff, Nat.reduceAdd, Nat.reduceMul, Nat.reduceLeDiff, Int.reduceLE, Int.reduceLT, Int.reduceEq, Int.reduceToNat, Int.reduceAdd, Int.reduceSub, Int.reduceMul, Int.reduceNeg, reduceCtorEq, Option.bind_some, Option.map_some, List.length_cons, List.length_nil, vcM, List.getElem?_toArray, List.getElem?_cons_zero, List.getElem?_cons_succ])
            (refine W_at c5_ok ?_; refine ⟨_, rfl, ?_⟩; simp (disch := first | omega | assumption | rfl | (simp only [vcS] <;> omega) | fail) only [↓ptV_l, ↓vcA, vcB, ↓vcD, vcE, ↓reduceIte, Nat.reduceEqDiff, Nat.reduceAdd, Nat.reduceMul, Nat.reduceLeDiff, Int.reduceLE, Int.reduceLT, Int.reduceEq, Int.reduceToNat, Int.reduceAdd, Int.reduceSub, Int.reduceMul, Int.reduceNeg, reduceCtorEq, Option.bind_some, Option.map_some, List.length_cons, List.length_nil, vcM, List.getElem?_toArray, List.getElem?_cons_zero, List.getElem?_cons_succ, h10y, h6y, hrd, hok, hsz])
            have k6 : Keep (fun x => x = p6) wy (wy.putN p6 0 #[sn, rn]) := (Keep.refl _ wy).putN _ fun _ => rfl
            have h6x : Box (wy.putN p6 0 #[sn, rn]) p6 sn rn := by show _ = _; rw [heap_putN_eq h6y, splice_all (by rfl)]
            refine ⟨⟨hTny.st.1.one, hTny.recs.one⟩, ?_⟩
            generalize World.putN _ _ _ _ = wx at k6 h6x ⊢
            (refine W_at c5_ok ?_; refine ⟨_, rfl, ?_⟩; simp (disch := first | omega | assumption | rfl | (simp only [vcS] <;> omega) | fail) only [↓ptV_l, ↓vcA, vcB, ↓vcD, vcE, ↓reduceIte, Nat.reduceEqDiff, Nat.reduceAdd, Nat.reduceMul, Nat.reduceLeDiff, Int.reduceLE, Int.reduceLT, Int.reduceEq, Int.reduceToNat, Int.reduceAdd, Int.reduceSub, Int.reduceMul, Int.reduceNeg, reduceCtorEq, Option.bind_some, Option.map_some, List.length_cons, List.length_nil, vcM, List.getElem?_toArray, List.getElem?_cons_zero, List.getElem?_cons_succ])
            (refine W_at c5_ok ?_; refine ⟨_, rfl, ?_⟩; simp (disch := first | omega | assumption | rfl | (simp only [vcS] <;> omega) | fail) only [↓ptV_l, ↓vcA, vcB, ↓vcD, vcE, ↓reduceIte, Nat.reduceEqDiff, Nat.reduceAdd, Nat.reduceMul, Nat.reduceLeDiff, Int.reduceLE, Int.reduceLT, Int.reduceEq, Int.reduceToNat, Int.reduceAdd, Int.reduceSub, Int.reduceMul, Int.reduceNeg, reduceCtorEq, Option.bind_some, Option.map_some, List.length_cons, List.length_nil, vcM, List.getElem?_toArray, List.getElem?_cons_zero, List.getElem?_cons_succ])
            exact put2 wy 0 _ hEy hsame.1 hsame.2 wx k6 h6x
          · rw [decide_eq_false hsame]
            have eJ : J' = J := by
              rcases hJ' with h | h
              · exact h
              · exact absurd ⟨by rw [h], by rw [h]⟩ hsame
            subst eJ
            simp (disch := first | omega | assumption | rfl | (simp only [vcS] <;> omega) | fail) only [↓vcL2, ptS1_eq, ↓vcA, vcB, ↓vcD, vcE, ↓reduceIte, Nat.reduceEqDiff, Nat.reduceAdd, Nat.reduceMul, Nat.reduceLeDiff, Int.reduceLE, Int.reduceLT, Int.reduceEq, Int.reduceToNat, Int.reduceAdd, Int.reduceSub, Int.reduceMul, Int.reduceNeg, reduceCtorEq, Option.bind_some, Option.map_some, List.length_cons, List.length_nil, vcM, List.getElem?_toArray, List.getElem?_cons_zero, List.getElem?_cons_succ]
            (refine W_at c5_ok ?_; refine ⟨_, rfl, ?_⟩; simp (disch := first | omega | assumption | rfl | (simp only [vcS] <;> omega) | fail) only [↓ptV_l, ↓vcA, vcB, ↓vcD, vcE, ↓reduceIte, Nat.reduceEqDiff, Nat.reduceAdd, Nat.reduceMul, Nat.reduceLeDiff, Int.reduceLE, Int.reduceLT, Int.reduceEq, Int.reduceToNat, Int.reduceAdd, Int.reduceSub, Int.reduceMul, Int.reduceNeg, reduceCtorEq, Option.bind_some, Option.map_some, List.length_cons, List.length_nil, vcM, List.getElem?_toArray, List.getElem?_cons_zero, List.getElem?_cons_succ])
            (refine W_at c5_ok ?_; refine ⟨_, rfl, ?_⟩; simp (disch := first | omega | assumption | rfl | (simp only [vcS] <;> omega) | fail) only [↓ptV_l, ↓vcA, vcB, ↓vcD, vcE, ↓reduceIte, Nat.reduceEqDiff, Nat.reduceAdd, Nat.reduceMul, Nat.reduceLeDiff, Int.reduceLE, Int.reduceLT, Int.reduceEq, Int.reduceToNat, Int.reduceAdd, Int.reduceSub, Int.reduceMul, Int.reduceNeg, reduceCtorEq, Option.bind_some, Option.map_some, List.length_cons, List.length_nil, vcM, List.getElem?_toArray, List.getElem?_cons_zero, List.getElem?_cons_succ])
            (refine W_at c5_ok ?_; refine ⟨_, rfl, ?_⟩; simp (disch := first | omega | assumption | rfl | (simp only [vcS] <;> omega) | fail) only [↓ptV_l, ↓vcA, vcB, ↓vcD, vcE, ↓reduceIte, Nat.reduceEqDiff, Nat.reduceAdd, Nat.reduceMul, Nat.reduceLeDiff, Int.reduceLE, Int.reduceLT, Int.reduceEq, Int.reduceToNat, Int.reduceAdd, Int.reduceSub, Int.reduceMul, Int.reduceNeg, reduceCtorEq, Option.bind_some, Option.map_some, List.length_cons, List.length_nil, vcM, List.getElem?_toArray, List.getElem?_cons_zero, List.getElem?_cons_succ])
            exact last2 wy jp' p10 p11 sv' rv' qv' s1 r1 sw rw J' d' _ _ (hSz.ext hEy) hG' hl' hn' hsJ' (hT1z.ext hEy) (hTwz.ext hEy) h6y (hEy.at h11 fun h => h) (hEz.ext hEy)
      -- behind a call
      have after : ∀ (wk : World) (p10 p8 : Nat) (sv rv qv sw rw sn rn : Value) (Jn : JS) (d1 : DS) (e : Int), Came w.heap.size wk jp p r sv rv qv J Jn d1 e → (kind = 4 → e = 0 ∧ Jn = J) → Small J (j + 1) 300 → Small Jn (j + 1) 300 → (byt Jn.state ∧ ∀ b ∈ Jn.recs, byt b) →
          TAt (fun g => ¬ blk rv g) wk sw rw J.state J.recs → TAt (fun g => ¬ blk rv g) wk sn rn Jn.state Jn.recs → Box wk p6 sw rw → Box wk p10 sn rn → p10 ≠ p6 →
          wk.heap[p8]? = some (.cells #[Value.int .i64 kind, .int .i64 arm, .int .i64 kp, .int .i64 torn, .int .i64 again, v] 36 (0, 0)) → Ext w wk →
          W Try.prog (Ret fun u w' => u = .bool true ∧ Ext w w') 5 32 [(0, .slice (some ⟨gb, go, none⟩) nn c), (3, .pointer (some ⟨p, 0, none⟩)), (4, .pointer (some ⟨jp, 0, none⟩)), (5, .int .i64 e), (6, .pointer (some ⟨p6, 0, none⟩)), (7, .int .i64 (j : Nat)), (8, .pointer (some ⟨p8, 0, none⟩)), (10, .pointer (some ⟨p10, 0, none⟩))] wk := by
        intro wk p10 p8 sv rv qv sw rw sn rn Jn d1 e hc h4 hsJ hsN hbn hTw hTn h6 h10 h106 hb8 hE
        have hB : ∀ g, DB p r qv g → w.heap.size ≤ g := fun g hg => hc.sys.base g (.inr (.inl hg))
        rcases hc.res with ⟨rfl, hGn⟩ | ⟨rfl, hC⟩
        · have hS := hc.sys
          rw [if_pos rfl] at hS
          by_cases k4 : kind = 4
          · obtain ⟨_, eJ⟩ := h4 k4
            (refine W_at c5_ok ?_; refine ⟨_, rfl, ?_⟩; simp (disch := first | omega | assumption | rfl | (simp only [vcS] <;> omega) | fail) only [↓ptV_l, ↓vcA, vcB, ↓vcD, vcE, ↓reduceIte, Nat.reduceEqDiff, Nat.reduceAdd, Nat.reduceMul, Nat.reduceLeDiff, Int.reduceLE, Int.reduceLT, Int.reduceEq, Int.reduceToNat, Int.reduceAdd, Int.reduceSub, Int.reduceMul, Int.reduceNeg, reduceCtorEq, Option.bind_some, Option.map_some, List.length_cons, List.length_nil, vcM, List.getElem?_toArray, List.getElem?_cons_zero, List.getElem?_cons_succ, eq_self])
            (refine W_at c5_ok ?_; refine ⟨_, rfl, ?_⟩; simp (disch := first | omega | assumption | rfl | (simp only [vcS] <;> omega) | fail) only [↓ptV_l, ↓vcA, vcB, ↓vcD, vcE, ↓reduceIte, Nat.reduceEqDiff, Nat.reduceAdd, Nat.reduceMul, Nat.reduceLeDiff, Int.reduceLE, Int.reduceLT, Int.reduceEq, Int.reduceToNat, Int.reduceAdd, Int.reduceSub, Int.reduceMul, Int.reduceNeg, reduceCtorEq, Option.bind_some, Option.map_some, List.length_cons, List.length_nil, vcM, List.getElem?_toArray, List.getElem?_cons_zero, List.getElem?_cons_succ])
            (refine W_at c5_ok ?_; refine ⟨_, rfl, ?_⟩; simp (disch := first | omega | assumption | rfl | (simp only [vcS] <;> omega) | fail) only [↓ptV_l, ↓vcA, vcB, ↓vcD, vcE, ↓reduceIte, Nat.reduceEqDiff, Nat.reduceAdd, Nat.reduceMul, Nat.reduceLeDiff, Int.reduceLE, Int.reduceLT, Int.reduceEq, Int.reduceToNat, Int.reduceAdd, Int.reduceSub, Int.reduceMul, Int.reduceNeg, reduceCtorEq, Option.bind_some, Option.map_some, List.length_cons, List.length_nil, vcM, List.getElem?_toArray, List.getElem?_cons_zero, List.getElem?_cons_succ, eq_self, hb8, k4])
            (refine W_at c5_ok ?_; refine ⟨_, rfl, ?_⟩; simp (disch := first | omega | assumption | rfl | (simp only [vcS] <;> omega) | fail) only [↓ptV_l, ↓vcA, vcB, ↓vcD, vcE, ↓reduceIte, Nat.reduceEqDiff, Nat.reduceAdd, Nat.reduceMul, Nat.reduceLeDiff, Int.reduceLE, Int.reduceLT, Int.reduceEq, Int.reduceToNat, Int.reduceAdd, Int.reduceSub, Int.reduceMul, Int.reduceNeg, reduceCtorEq, Option.bind_some, Option.map_some, List.length_cons, List.length_nil, vcM, List.getElem?_toArray, List.getElem?_cons_zero, List.getElem?_cons_succ])
            have hDk := hS.d
            exact re wk jp p10 p8 sv rv qv sw rw sn rn Jn d1 0 _ hDk hB hc.ok hc.n (fun kp tn => .inr (hGn.crash kp tn)) (.inl ⟨rfl, eJ⟩) hsJ hsN hbn hTw hTn h6 h10 h106 hb8 hE
          · (refine W_at c5_ok ?_; refine ⟨_, rfl, ?_⟩; simp (disch := first | omega | assumption | rfl | (simp only [vcS] <;> omega) | fail) only [↓ptV_l, ↓vcA, vcB, ↓vcD, vcE, ↓reduceIte, Nat.reduceEqDiff, Nat.reduceAdd, Nat.reduceMul, Nat.reduceLeDiff, Int.reduceLE, Int.reduceLT, Int.reduceEq, Int.reduceToNat, Int.reduceAdd, Int.reduceSub, Int.reduceMul, Int.reduceNeg, reduceCtorEq, Option.bind_some, Option.map_some, List.length_cons, List.length_nil, vcM, List.getElem?_toArray, List.getElem?_cons_zero, List.getElem?_cons_succ, eq_self])
            (refine W_at c5_ok ?_; refine ⟨_, rfl, ?_⟩; simp (disch := first | omega | assumption | rfl | (simp only [vcS] <;> omega) | fail) only [↓ptV_l, ↓vcA, vcB, ↓vcD, vcE, ↓reduceIte, Nat.reduceEqDiff, Nat.reduceAdd, Nat.reduceMul, Nat.reduceLeDiff, Int.reduceLE, Int.reduceLT, Int.reduceEq, Int.reduceToNat, Int.reduceAdd, Int.reduceSub, Int.reduceMul, Int.reduceNeg, reduceCtorEq, Option.bind_some, Option.map_some, List.length_cons, List.length_nil, vcM, List.getElem?_toArray, List.getElem?_cons_zero, List.getElem?_cons_succ])
            (refine W_at c5_ok ?_; refine ⟨_, rfl, ?_⟩; simp (disch := first | omega | assumption | rfl | (simp only [vcS] <;> omega) | fail) only [↓ptV_l, ↓vcA, vcB, ↓vcD, vcE, ↓reduceIte, Nat.reduceEqDiff, Nat.reduceAdd, Nat.reduceMul, Nat.reduceLeDiff, Int.reduceLE, Int.reduceLT, Int.reduceEq, Int.reduceToNat, Int.reduceAdd, Int.reduceSub, Int.reduceMul, Int.reduceNeg, reduceCtorEq, Option.bind_some, Option.map_some, List.length_cons, List.length_nil, vcM, List.getElem?_toArray, List.getElem?_cons_zero, List.getElem?_cons_succ, eq_self, hb8, k4])
            (refine W_at c5_ok ?_; refine ⟨_, rfl, ?_⟩; simp (disch := first | omega | assumption | rfl | (simp only [vcS] <;> omega) | fail) only [↓ptV_l, ↓vcA, vcB, ↓vcD, vcE, ↓reduceIte, Nat.reduceEqDiff, Nat.reduceAdd, Nat.reduceMul, Nat.reduceLeDiff, Int.reduceLE, Int.reduceLT, Int.reduceEq, Int.reduceToNat, Int.reduceAdd, Int.reduceSub, Int.reduceMul, Int.reduceNeg, reduceCtorEq, Option.bind_some, Option.map_some, List.length_cons, List.length_nil, vcM, List.getElem?_toArray, List.getElem?_cons_zero, List.getElem?_cons_succ])
            (refine W_at c5_ok ?_; refine ⟨_, rfl, ?_⟩; simp (disch := first | omega | assumption | rfl | (simp only [vcS] <;> omega) | fail) only [↓ptV_l, ↓vcA, vcB, ↓vcD, vcE, ↓reduceIte, Nat.reduceEqDiff, Nat.reduceAdd, Nat.reduceMul, Nat.reduceLeDiff, Int.reduceLE, Int.reduceLT, Int.reduceEq, Int.reduceToNat, Int.reduceAdd, Int.reduceSub, Int.reduceMul, Int.reduceNeg, reduceCtorEq, Option.bind_some, Option.map_some, List.length_cons, List.length_nil, vcM, List.getElem?_toArray, List.getElem?_cons_zero, List.getElem?_cons_succ])
            refine callV_ret (arm_ok wk p r qv d1 (-1) hS.d (by omega)) ?_
            rintro _ wl ⟨hDl, hkl⟩
            first | (simp (disch := first | omega | assumption | rfl | (simp only [vcS] <;> omega) | fail) only [↓ptV_l, ↓vcA, vcB, ↓vcD, vcE, ↓reduceIte, Nat.reduceEqDiff, Nat.reduceAdd, Nat.reduceMul, Nat.reduceLeDiff, Int.reduceLE, Int.reduceLT, Int.reduceEq, Int.reduceToNat, Int.reduceAdd, Int.reduceSub, Int.reduceMul, Int.reduceNeg, reduceCtorEq, Option.bind_some, Option.map_some, List.length_cons, List.length_nil, vcM, List.getElem?_toArray, List.getElem?_cons_zero, List.getElem?_cons_succ]) | skip
            have nb : ∀ {g c t}, wk.heap[g]? = some (.cells c t (0, 0)) → t ≠ 58 → ¬ g = p := fun {g c t} hg ht e => by
              obtain ⟨f, a, h1, _⟩ := hS.d.obj
              rw [e, h1] at hg; cases hg; exact ht rfl
            have h6l := hkl.at h6 (nb h6 (by decide))
            have h10l := hkl.at h10 (nb h10 (by decide))
            have hTnl := hS.d.tat (hkl.mono fun x hx => .inl hx) hTn
            have hSl := hS.armed hDl hkl
            have hEl : Ext w wl := hE.trans hkl fun i hi e => by have := hB p (.inl rfl); omega
            (refine W_at c5_ok ?_; refine ⟨_, rfl, ?_⟩; simp (disch := first | omega | assumption | rfl | (simp only [vcS] <;> omega) | fail) only [↓ptV_l, ↓vcA, vcB, ↓vcD, vcE, ↓reduceIte, Nat.reduceEqDiff, Nat.reduceAdd, Nat.reduceMul, Nat.reduceLeDiff, Int.reduceLE, Int.reduceLT, Int.reduceEq, Int.reduceToNat, Int.reduceAdd, Int.reduceSub, Int.reduceMul, Int.reduceNeg, reduceCtorEq, Option.bind_some, Option.map_some, List.length_cons, List.length_nil, vcM, List.getElem?_toArray, List.getElem?_cons_zero, List.getElem?_cons_succ, h10l, h6l, hrd, hok, hsz])
            have k6 : Keep (fun x => x = p6) wl (wl.putN p6 0 #[sn, rn]) := (Keep.refl _ wl).putN _ fun _ => rfl
            have h6x : Box (wl.putN p6 0 #[sn, rn]) p6 sn rn := by show _ = _; rw [heap_putN_eq h6l, splice_all (by rfl)]
            refine ⟨⟨hTnl.st.1.one, hTnl.recs.one⟩, ?_⟩
            generalize World.putN _ _ _ _ = wx at k6 h6x ⊢
            have hSx := hSl.box h6l k6
            have hTx := hTnl.box h6l k6
            have hEx : Ext w wx := hEl.trans k6 fun i hi e => by omega
            have hGx : Good (armD d1 (-1)) Jn := arm_good hGn (by omega)
            have hby := hGx.byts
            have hsms := hsN.st
            have hsmr := hsN.recs
            have hEd : Ext wx wx.drew := (Keep.refl _ wx).drew
            (refine W_at c5_ok ?_; refine ⟨_, rfl, ?_⟩; simp (disch := first | omega | assumption | rfl | (simp only [vcS] <;> omega) | fail) only [↓ptV_l, ↓vcA, vcB, ↓vcD, vcE, ↓reduceIte, Nat.reduceEqDiff, Nat.reduceAdd, Nat.reduceMul, Nat.reduceLeDiff, Int.reduceLE, Int.reduceLT, Int.reduceEq, Int.reduceToNat, Int.reduceAdd, Int.reduceSub, Int.reduceMul, Int.reduceNeg, reduceCtorEq, Option.bind_some, Option.map_some, List.length_cons, List.length_nil, vcM, List.getElem?_toArray, List.getElem?_cons_zero, List.getElem?_cons_succ, h6x, hrd])
            refine callV_ret (told_ok wx.drew jp p sv rv Jn (hSx.ext hEd).j (by omega) (by omega) (fun b hb => Nat.le_trans (hsN.len b hb) (by omega))) ?_
            rintro _ wm ⟨s1, r1, rfl, hT1, hEm⟩
            have h6m := (hEd.ext hEm).at h6x (fun h => h)
            simp (disch := first | omega | assumption | rfl | (simp only [vcS] <;> omega) | fail) only [↓ptV_l, ↓vcA, vcB, ↓vcD, vcE, ↓reduceIte, Nat.reduceEqDiff, Nat.reduceAdd, Nat.reduceMul, Nat.reduceLeDiff, Int.reduceLE, Int.reduceLT, Int.reduceEq, Int.reduceToNat, Int.reduceAdd, Int.reduceSub, Int.reduceMul, Int.reduceNeg, reduceCtorEq, Option.bind_some, Option.map_some, List.length_cons, List.length_nil, vcM, List.getElem?_toArray, List.getElem?_cons_zero, List.getElem?_cons_succ, h6m, hrd]
            refine callV_ret (rsame_ok wm _ _ s1 r1 sn rn Jn.state Jn.state Jn.recs Jn.recs hT1 (hTx.ext (hEd.ext hEm)) hby.1 hby.1 hby.2 hby.2 (by omega)) ?_
            rintro _ wn ⟨rfl, hEn⟩
            rw [show decide (Jn.state = Jn.state ∧ Jn.recs = Jn.recs) = true from decide_eq_true ⟨rfl, rfl⟩]
            have hExn : Ext wx wn := (hEd.ext hEm).ext hEn
            first | (simp (disch := first | omega | assumption | rfl | (simp only [vcS] <;> omega) | fail) only [↓ptV_l, ↓vcA, vcB, ↓vcD, vcE, ↓reduceIte, Nat.reduceEqDiff, Nat.reduceAdd, Nat.reduceMul, Nat.reduceLeDiff, Int.reduceLE, Int.reduceLT, Int.reduceEq, Int.reduceToNat, Int.reduceAdd, Int.reduceSub, Int.reduceMul, Int.reduceNeg, reduceCtorEq, Option.bind_some, Option.map_some, List.length_cons, List.length_nil, vcM, List.getElem?_toArray, List.getElem?_cons_zero, List.getElem?_cons_succ]) | skip
            (refine W_at c5_ok ?_; refine ⟨_, rfl, ?_⟩; simp (disch := first | omega | assumption | rfl | (simp only [vcS] <;> omega) | fail) only [↓ptV_l, ↓vcA, vcB, ↓vcD, vcE, ↓reduceIte, Nat.reduceEqDiff, Nat.reduceAdd, Nat.reduceMul, Nat.reduceLeDiff, Int.reduceLE, Int.reduceLT, Int.reduceEq, Int.reduceToNat, Int.reduceAdd, Int.reduceSub, Int.reduceMul, Int.reduceNeg, reduceCtorEq, Option.bind_some, Option.map_some, List.length_cons, List.length_nil, vcM, List.getElem?_toArray, List.getElem?_cons_zero, List.getElem?_cons_succ])
            (refine W_at c5_ok ?_; refine ⟨_, rfl, ?_⟩; simp (disch := first | omega | assumption | rfl | (simp only [vcS] <;> omega) | fail) only [↓ptV_l, ↓vcA, vcB, ↓vcD, vcE, ↓reduceIte, Nat.reduceEqDiff, Nat.reduceAdd, Nat.reduceMul, Nat.reduceLeDiff, Int.reduceLE, Int.reduceLT, Int.reduceEq, Int.reduceToNat, Int.reduceAdd, Int.reduceSub, Int.reduceMul, Int.reduceNeg, reduceCtorEq, Option.bind_some, Option.map_some, List.length_cons, List.length_nil, vcM, List.getElem?_toArray, List.getElem?_cons_zero, List.getElem?_cons_succ, hwj])
            (refine W_at c5_ok ?_; refine ⟨_, rfl, ?_⟩; simp (disch := first | omega | assumption | rfl | (simp only [vcS] <;> omega) | fail) only [↓ptV_l, ↓vcA, vcB, ↓vcD, vcE, ↓reduceIte, Nat.reduceEqDiff, Nat.reduceAdd, Nat.reduceMul, Nat.reduceLeDiff, Int.reduceLE, Int.reduceLT, Int.reduceEq, Int.reduceToNat, Int.reduceAdd, Int.reduceSub, Int.reduceMul, Int.reduceNeg, reduceCtorEq, Option.bind_some, Option.map_some, List.length_cons, List.length_nil, vcM, List.getElem?_toArray, List.getElem?_cons_zero, List.getElem?_cons_succ])
            exact ih (j + 1) wn jp sv rv qv sn rn Jn (armD d1 (-1)) (by omega) (hSx.ext hExn) hGx rfl hc.n hsN (hTx.ext hExn) (hExn.at h6x fun h => h) (hEx.ext hExn)
        · have hS := hc.sys
          rw [if_neg (by omega)] at hS
          (refine W_at c5_ok ?_; refine ⟨_, rfl, ?_⟩; simp (disch := first | omega | assumption | rfl | (simp only [vcS] <;> omega) | fail) only [↓ptV_l, ↓vcA, vcB, ↓vcD, vcE, ↓reduceIte, Nat.reduceEqDiff, Nat.reduceAdd, Nat.reduceMul, Nat.reduceLeDiff, Int.reduceLE, Int.reduceLT, Int.reduceEq, Int.reduceToNat, Int.reduceAdd, Int.reduceSub, Int.reduceMul, Int.reduceNeg, reduceCtorEq, Option.bind_some, Option.map_some, List.length_cons, List.length_nil, vcM, List.getElem?_toArray, List.getElem?_cons_zero, List.getElem?_cons_succ, eq_self])
          (refine W_at c5_ok ?_; refine ⟨_, rfl, ?_⟩; simp (disch := first | omega | assumption | rfl | (simp only [vcS] <;> omega) | fail) only [↓ptV_l, ↓vcA, vcB, ↓vcD, vcE, ↓reduceIte, Nat.reduceEqDiff, Nat.reduceAdd, Nat.reduceMul, Nat.reduceLeDiff, Int.reduceLE, Int.reduceLT, Int.reduceEq, Int.reduceToNat, Int.reduceAdd, Int.reduceSub, Int.reduceMul, Int.reduceNeg, reduceCtorEq, Option.bind_some, Option.map_some, List.length_cons, List.length_nil, vcM, List.getElem?_toArray, List.getElem?_cons_zero, List.getElem?_cons_succ])
          (refine W_at c5_ok ?_; refine ⟨_, rfl, ?_⟩; simp (disch := first | omega | assumption | rfl | (simp only [vcS] <;> omega) | fail) only [↓ptV_l, ↓vcA, vcB, ↓vcD, vcE, ↓reduceIte, Nat.reduceEqDiff, Nat.reduceAdd, Nat.reduceMul, Nat.reduceLeDiff, Int.reduceLE, Int.reduceLT, Int.reduceEq, Int.reduceToNat, Int.reduceAdd, Int.reduceSub, Int.reduceMul, Int.reduceNeg, reduceCtorEq, Option.bind_some, Option.map_some, List.length_cons, List.length_nil, vcM, List.getElem?_toArray, List.getElem?_cons_zero, List.getElem?_cons_succ, eq_self])
          (refine W_at c5_ok ?_; refine ⟨_, rfl, ?_⟩; simp (disch := first | omega | assumption | rfl | (simp only [vcS] <;> omega) | fail) only [↓ptV_l, ↓vcA, vcB, ↓vcD, vcE, ↓reduceIte, Nat.reduceEqDiff, Nat.reduceAdd, Nat.reduceMul, Nat.reduceLeDiff, Int.reduceLE, Int.reduceLT, Int.reduceEq, Int.reduceToNat, Int.reduceAdd, Int.reduceSub, Int.reduceMul, Int.reduceNeg, reduceCtorEq, Option.bind_some, Option.map_some, List.length_cons, List.length_nil, vcM, List.getElem?_toArray, List.getElem?_cons_zero, List.getElem?_cons_succ])
          exact re wk jp p10 p8 sv rv qv sw rw sn rn Jn d1 10 _ hS.d hB hc.ok hc.n hC (.inr rfl) hsJ hsN hbn hTw hTn h6 h10 h106 hb8 hE
      (refine W_at c5_ok ?_; refine ⟨_, rfl, ?_⟩; simp (disch := first | omega | assumption | rfl | (simp only [vcS] <;> omega) | fail) only [↓ptV_l, ↓vcA, vcB, ↓vcD, vcE, ↓reduceIte, Nat.reduceEqDiff, Nat.reduceAdd, Nat.reduceMul, Nat.reduceLeDiff, Int.reduceLE, Int.reduceLT, Int.reduceEq, Int.reduceToNat, Int.reduceAdd, Int.reduceSub, Int.reduceMul, Int.reduceNeg, reduceCtorEq, Option.bind_some, Option.map_some, List.length_cons, List.length_nil, vcM, List.getElem?_toArray, List.getElem?_cons_zero, List.getElem?_cons_succ, c1, c2])
      (refine W_at c5_ok ?_; refine ⟨_, rfl, ?_⟩; simp (disch := first | omega | assumption | rfl | (simp only [vcS] <;> omega) | fail) only [↓ptV_l, ↓vcA, vcB, ↓vcD, vcE, ↓reduceIte, Nat.reduceEqDiff, Nat.reduceAdd, Nat.reduceMul, Nat.reduceLeDiff, Int.reduceLE, Int.reduceLT, Int.reduceEq, Int.reduceToNat, Int.reduceAdd, Int.reduceSub, Int.reduceMul, Int.reduceNeg, reduceCtorEq, Option.bind_some, Option.map_some, List.length_cons, List.length_nil, vcM, List.getElem?_toArray, List.getElem?_cons_zero, List.getElem?_cons_succ])
      (refine W_at c5_ok ?_; refine ⟨_, rfl, ?_⟩; simp (disch := first | omega | assumption | rfl | (simp only [vcS] <;> omega) | fail) only [↓ptV_l, ↓vcA, vcB, ↓vcD, vcE, ↓reduceIte, Nat.reduceEqDiff, Nat.reduceAdd, Nat.reduceMul, Nat.reduceLeDiff, Int.reduceLE, Int.reduceLT, Int.reduceEq, Int.reduceToNat, Int.reduceAdd, Int.reduceSub, Int.reduceMul, Int.reduceNeg, reduceCtorEq, Option.bind_some, Option.map_some, List.length_cons, List.length_nil, vcM, List.getElem?_toArray, List.getElem?_cons_zero, List.getElem?_cons_succ, cw, Int.toNat_natCast, hr, s6])
      have hflat : flat #[Value.int .i64 kind, .int .i64 arm, .int .i64 kp, .int .i64 torn, .int .i64 again, v] := by
        intro y hy
        simp at hy
        rcases hy with rfl | rfl | rfl | rfl | rfl | rfl <;> first | rfl | exact hv1
      have hb8 : ((wj.alloc (.cells (zc [(5, .int .i64 0), (1, .slice none 0 0)]) 36)).putN wj.heap.size 0 #[Value.int .i64 kind, .int .i64 arm, .int .i64 kp, .int .i64 torn, .int .i64 again, v]).heap[wj.heap.size]? = some (.cells #[Value.int .i64 kind, .int .i64 arm, .int .i64 kp, .int .i64 torn, .int .i64 again, v] 36 (0, 0)) := by
        rw [heap_putN_eq (heap_new _ _ _ rfl), splice_all (by rfl)]
      have hE8 : Ext wj ((wj.alloc (.cells (zc [(5, .int .i64 0), (1, .slice none 0 0)]) 36)).putN wj.heap.size 0 #[Value.int .i64 kind, .int .i64 arm, .int .i64 kp, .int .i64 torn, .int .i64 again, v]) := ((Keep.refl _ wj).alloc _).putN _ (by intro hh; exfalso; omega)
      refine ⟨hflat, ?_⟩
      have hp8 : w.heap.size ≤ wj.heap.size := hE.size
      generalize World.putN _ _ _ _ = w8 at hb8 hE8 ⊢
      generalize wj.heap.size = p8 at hb8 hp8 ⊢
      (refine W_at c5_ok ?_; refine ⟨_, rfl, ?_⟩; simp (disch := first | omega | assumption | rfl | (simp only [vcS] <;> omega) | fail) only [↓ptV_l, ↓vcA, vcB, ↓vcD, vcE, ↓reduceIte, Nat.reduceEqDiff, Nat.reduceAdd, Nat.reduceMul, Nat.reduceLeDiff, Int.reduceLE, Int.reduceLT, Int.reduceEq, Int.reduceToNat, Int.reduceAdd, Int.reduceSub, Int.reduceMul, Int.reduceNeg, reduceCtorEq, Option.bind_some, Option.map_some, List.length_cons, List.length_nil, vcM, List.getElem?_toArray, List.getElem?_cons_zero, List.getElem?_cons_succ, hb8])
      refine callV_ret (small_ok w8 v bs 300 (hact.rd.ext (hE.ext hE8))) ?_
      rintro vb wq ⟨hvb, hw⟩
      obtain rfl : w8 = wq := hw.symm
      have hvb := hvb w hact.rd
      rw [hb'] at hvb
      first | (simp (disch := first | omega | assumption | rfl | (simp only [vcS] <;> omega) | fail) only [↓ptV_l, ↓vcA, vcB, ↓vcD, vcE, ↓reduceIte, Nat.reduceEqDiff, Nat.reduceAdd, Nat.reduceMul, Nat.reduceLeDiff, Int.reduceLE, Int.reduceLT, Int.reduceEq, Int.reduceToNat, Int.reduceAdd, Int.reduceSub, Int.reduceMul, Int.reduceNeg, reduceCtorEq, Option.bind_some, Option.map_some, List.length_cons, List.length_nil, vcM, List.getElem?_toArray, List.getElem?_cons_zero, List.getElem?_cons_succ]) | skip
      have cont : ∀ (wa : World) (d1 : DS) (tl : Env), JSys w.heap.size wa jp p r sv rv qv J d1 → Good d1 J → d1.n = 1200 → TAt (fun g => ¬ blk rv g) wa sw rw J.state J.recs → Box wa p6 sw rw → wa.heap[p8]? = some (.cells #[Value.int .i64 kind, .int .i64 arm, .int .i64 kp, .int .i64 torn, .int .i64 again, v] 36 (0, 0)) → Ext w wa →
          W Try.prog (Ret fun u w' => u = .bool true ∧ Ext w w') 5 43 ((0, .slice (some ⟨gb, go, none⟩) nn c) :: (3, .pointer (some ⟨p, 0, none⟩)) :: (4, .pointer (some ⟨jp, 0, none⟩)) :: (6, .pointer (some ⟨p6, 0, none⟩)) :: (7, .int .i64 (j : Nat)) :: (8, .pointer (some ⟨p8, 0, none⟩)) :: (9, vb) :: tl) wa := by
        intro wa d1 tl hS hG hn hT h6 hb8 hE
        have hrw1 := hT.recs.one
        have hsw1 := hT.st.1.one
        (refine W_at c5_ok ?_; refine ⟨_, rfl, ?_⟩; simp (disch := first | omega | assumption | rfl | (simp only [vcS] <;> omega) | fail) only [↓ptV_l, ↓vcA, vcB, ↓vcD, vcE, ↓reduceIte, Nat.reduceEqDiff, Nat.reduceAdd, Nat.reduceMul, Nat.reduceLeDiff, Int.reduceLE, Int.reduceLT, Int.reduceEq, Int.reduceToNat, Int.reduceAdd, Int.reduceSub, Int.reduceMul, Int.reduceNeg, reduceCtorEq, Option.bind_some, Option.map_some, List.length_cons, List.length_nil, vcM, List.getElem?_toArray, List.getElem?_cons_zero, List.getElem?_cons_succ, h6, hrd, hsz])
        have hE10 : Ext wa ((wa.alloc (.cells (zc [(2, .slice none 0 0)]) 33)).putN wa.heap.size 0 #[sw, rw]) := ((Keep.refl _ wa).alloc _).putN _ (by intro hh; exfalso; omega)
        have h10 : Box ((wa.alloc (.cells (zc [(2, .slice none 0 0)]) 33)).putN wa.heap.size 0 #[sw, rw]) wa.heap.size sw rw := by
          show _ = _
          rw [heap_putN_eq (heap_new _ _ _ rfl), splice_all (by rfl)]
        refine ⟨⟨hsw1, hrw1⟩, ?_⟩
        have h6lt := lt_of_heap h6
        have hp10b := hE.size
        generalize wa.heap.size = p10 at h10 hE10 h6lt hp10b ⊢
        generalize World.putN _ _ _ _ = wb at h10 hE10 ⊢
        have hSb := hS.ext hE10
        have hTb := hT.ext hE10
        have h6b := hE10.at h6 (fun h => h)
        have hb8b := hE10.at hb8 (fun h => h)
        have hEb := hE.ext hE10
        have hpos := hsm.pos
        have hby := hG.byts
        (refine W_at c5_ok ?_; refine ⟨_, rfl, ?_⟩; simp (disch := first | omega | assumption | rfl | (simp only [vcS] <;> omega) | fail) only [↓ptV_l, ↓vcA, vcB, ↓vcD, vcE, ↓reduceIte, Nat.reduceEqDiff, Nat.reduceAdd, Nat.reduceMul, Nat.reduceLeDiff, Int.reduceLE, Int.reduceLT, Int.reduceEq, Int.reduceToNat, Int.reduceAdd, Int.reduceSub, Int.reduceMul, Int.reduceNeg, reduceCtorEq, Option.bind_some, Option.map_some, List.length_cons, List.length_nil, vcM, List.getElem?_toArray, List.getElem?_cons_zero, List.getElem?_cons_succ, hb8b])
        by_cases k1 : kind = 1
        · (refine W_at c5_ok ?_; refine ⟨_, rfl, ?_⟩; simp (disch := first | omega | assumption | rfl | (simp only [vcS] <;> omega) | fail) only [↓ptV_l, ↓vcA, vcB, ↓vcD, vcE, ↓reduceIte, Nat.reduceEqDiff, Nat.reduceAdd, Nat.reduceMul, Nat.reduceLeDiff, Int.reduceLE, Int.reduceLT, Int.reduceEq, Int.reduceToNat, Int.reduceAdd, Int.reduceSub, Int.reduceMul, Int.reduceNeg, reduceCtorEq, Option.bind_some, Option.map_some, List.length_cons, List.length_nil, vcM, List.getElem?_toArray, List.getElem?_cons_zero, List.getElem?_cons_succ, k1, eq_self])
          (refine W_at c5_ok ?_; refine ⟨_, rfl, ?_⟩; simp (disch := first | omega | assumption | rfl | (simp only [vcS] <;> omega) | fail) only [↓ptV_l, ↓vcA, vcB, ↓vcD, vcE, ↓reduceIte, Nat.reduceEqDiff, Nat.reduceAdd, Nat.reduceMul, Nat.reduceLeDiff, Int.reduceLE, Int.reduceLT, Int.reduceEq, Int.reduceToNat, Int.reduceAdd, Int.reduceSub, Int.reduceMul, Int.reduceNeg, reduceCtorEq, Option.bind_some, Option.map_some, List.length_cons, List.length_nil, vcM, List.getElem?_toArray, List.getElem?_cons_zero, List.getElem?_cons_succ])
          (refine W_at c5_ok ?_; refine ⟨_, rfl, ?_⟩; simp (disch := first | omega | assumption | rfl | (simp only [vcS] <;> omega) | fail) only [↓ptV_l, ↓vcA, vcB, ↓vcD, vcE, ↓reduceIte, Nat.reduceEqDiff, Nat.reduceAdd, Nat.reduceMul, Nat.reduceLeDiff, Int.reduceLE, Int.reduceLT, Int.reduceEq, Int.reduceToNat, Int.reduceAdd, Int.reduceSub, Int.reduceMul, Int.reduceNeg, reduceCtorEq, Option.bind_some, Option.map_some, List.length_cons, List.length_nil, vcM, List.getElem?_toArray, List.getElem?_cons_zero, List.getElem?_cons_succ, h10, h6b, hrd])
          refine callV_ret (rappend_ok wb _ sw rw vb J.state b J.recs hTb (hvb.ext hEb) (by omega) (by have := hsm.recs; omega)) ?_
          rintro _ wc ⟨rn, rfl, hTc, hrwn, hEc⟩
          have h10c := hEc.at h10 (fun h => h)
          simp (disch := first | omega | assumption | rfl | (simp only [vcS] <;> omega) | fail) only [↓ptV_l, ↓vcA, vcB, ↓vcD, vcE, ↓reduceIte, Nat.reduceEqDiff, Nat.reduceAdd, Nat.reduceMul, Nat.reduceLeDiff, Int.reduceLE, Int.reduceLT, Int.reduceEq, Int.reduceToNat, Int.reduceAdd, Int.reduceSub, Int.reduceMul, Int.reduceNeg, reduceCtorEq, Option.bind_some, Option.map_some, List.length_cons, List.length_nil, vcM, List.getElem?_toArray, List.getElem?_cons_zero, List.getElem?_cons_succ, h10c, hok, hsz]
          refine ⟨⟨hTc.st.1.one, hTc.recs.one⟩, ?_⟩
          have k10 : Keep (fun x => x = p10) wc (wc.putN p10 0 #[sw, rn]) := (Keep.refl _ wc).putN _ fun _ => rfl
          have h10x : Box (wc.putN p10 0 #[sw, rn]) p10 sw rn := by show _ = _; rw [heap_putN_eq h10c, splice_all (by rfl)]
          generalize World.putN _ _ _ _ = wd at k10 h10x ⊢
          have hSd := (hSb.ext hEc).box h10c k10
          have hTwd := (hTb.ext hEc).box h10c k10
          have hTnd : TAt (fun g => ¬ blk rv g) wd sw rn (J.app b).state (J.app b).recs := (hTc.mono fun x hx hb => hx.elim (fun h => h hb) fun h => by have := hSb.lt (.inr (.inr hb)); omega).box h10c k10
          have h6d := k10.at (hEc.at h6b fun h => h) (by omega)
          have n8 : ∀ {c}, wc.heap[p8]? = some (.cells c 36 (0, 0)) → ¬ p8 = p10 := fun {c} hg e => by rw [e, h10c] at hg; cases hg
          have hb8d := k10.at (hEc.at hb8b fun h => h) (n8 (hEc.at hb8b fun h => h))
          have hEd : Ext w wd := (hEb.ext hEc).trans k10 fun i hi e => by omega
          (refine W_at c5_ok ?_; refine ⟨_, rfl, ?_⟩; simp (disch := first | omega | assumption | rfl | (simp only [vcS] <;> omega) | fail) only [↓ptV_l, ↓vcA, vcB, ↓vcD, vcE, ↓reduceIte, Nat.reduceEqDiff, Nat.reduceAdd, Nat.reduceMul, Nat.reduceLeDiff, Int.reduceLE, Int.reduceLT, Int.reduceEq, Int.reduceToNat, Int.reduceAdd, Int.reduceSub, Int.reduceMul, Int.reduceNeg, reduceCtorEq, Option.bind_some, Option.map_some, List.length_cons, List.length_nil, vcM, List.getElem?_toArray, List.getElem?_cons_zero, List.getElem?_cons_succ])
          refine callV_ret (copy_ok wd vb b (hvb.ext hEd) (by omega)) ?_
          intro cv we hN
          have hEe := hN.ext
          first | (simp (disch := first | omega | assumption | rfl | (simp only [vcS] <;> omega) | fail) only [↓ptV_l, ↓vcA, vcB, ↓vcD, vcE, ↓reduceIte, Nat.reduceEqDiff, Nat.reduceAdd, Nat.reduceMul, Nat.reduceLeDiff, Int.reduceLE, Int.reduceLT, Int.reduceEq, Int.reduceToNat, Int.reduceAdd, Int.reduceSub, Int.reduceMul, Int.reduceNeg, reduceCtorEq, Option.bind_some, Option.map_some, List.length_cons, List.length_nil, vcM, List.getElem?_toArray, List.getElem?_cons_zero, List.getElem?_cons_succ]) | skip
          refine callV_ret (Append_ok we jp p r sv rv qv J d1 cv b (hSd.ext hEe).j (hSd.ext hEe).d hG (ByT.own hN.own).x hbb (by have := hsm.recs; omega)) ?_
          intro u wf hAp
          have hroom : ((b.length : Nat) : Int) ≤ roomF d1 J := by unfold roomF; rw [hn]; have : secs 1200 = 599 := rfl; omega
          obtain ⟨e, d', rfl, hAT, hT'⟩ := appR_armed (by omega) hroom hAp
          obtain ⟨sv', rv', qv', hSt⟩ := JTo.step (hSd.ext hEe) (hEd.ext hEe).size hT'
          first | (simp (disch := first | omega | assumption | rfl | (simp only [vcS] <;> omega) | fail) only [↓ptV_l, ↓vcA, vcB, ↓vcD, vcE, ↓reduceIte, Nat.reduceEqDiff, Nat.reduceAdd, Nat.reduceMul, Nat.reduceLeDiff, Int.reduceLE, Int.reduceLT, Int.reduceEq, Int.reduceToNat, Int.reduceAdd, Int.reduceSub, Int.reduceMul, Int.reduceNeg, reduceCtorEq, Option.bind_some, Option.map_some, List.length_cons, List.length_nil, vcM, List.getElem?_toArray, List.getElem?_cons_zero, List.getElem?_cons_succ]) | skip
          refine after wf p10 p8 sv' rv' qv' sw rw sw rn (J.app b) d' e ⟨hSt.sys, hAT.n.trans hn, hAT.ok, ?_⟩ (fun h => by omega) hsm.next (hsm.app hbl) ⟨hby.1, fun x hx => ?_⟩ (StepTo.tat (hSd.ext hEe) hSt (hTwd.ext hEe)) (StepTo.tat (hSd.ext hEe) hSt (hTnd.ext hEe)) (hSt.keep.at (hEe.at h6d fun h => h) ?_) (hSt.keep.at (hEe.at h10x fun h => h) ?_) (by omega) (hSt.keep.at (hEe.at hb8d fun h => h) ?_) ((hEd.ext hEe).trans hSt.keep fun i hi hg => by have := hSd.base i hg; omega)
          · rcases hAT.res with ⟨h1, h2⟩ | ⟨h1, _, h3⟩
            · exact .inl ⟨h1, h2⟩
            · exact .inr ⟨h1, h3⟩
          · rcases List.mem_append.1 hx with hx | hx
            · exact hby.2 x hx
            · rw [List.mem_singleton.1 hx]; exact hbb
          · exact Box.ne (hEe.at h6d fun h => h) (hSd.ext hEe)
          · exact Box.ne (hEe.at h10x fun h => h) (hSd.ext hEe)
          · exact (hSd.ext hEe).nb (hEe.at hb8d fun h => h) (by decide) (by decide) (by decide) (by decide)
        · by_cases k2 : kind = 2
          · (refine W_at c5_ok ?_; refine ⟨_, rfl, ?_⟩; simp (disch := first | omega | assumption | rfl | (simp only [vcS] <;> omega) | fail) only [↓ptV_l, ↓vcA, vcB, ↓vcD, vcE, ↓reduceIte, Nat.reduceEqDiff, Nat.reduceAdd, Nat.reduceMul, Nat.reduceLeDiff, Int.reduceLE, Int.reduceLT, Int.reduceEq, Int.reduceToNat, Int.reduceAdd, Int.reduceSub, Int.reduceMul, Int.reduceNeg, reduceCtorEq, Option.bind_some, Option.map_some, List.length_cons, List.length_nil, vcM, List.getElem?_toArray, List.getElem?_cons_zero, List.getElem?_cons_succ, k1])
            (refine W_at c5_ok ?_; refine ⟨_, rfl, ?_⟩; simp (disch := first | omega | assumption | rfl | (simp only [vcS] <;> omega) | fail) only [↓ptV_l, ↓vcA, vcB, ↓vcD, vcE, ↓reduceIte, Nat.reduceEqDiff, Nat.reduceAdd, Nat.reduceMul, Nat.reduceLeDiff, Int.reduceLE, Int.reduceLT, Int.reduceEq, Int.reduceToNat, Int.reduceAdd, Int.reduceSub, Int.reduceMul, Int.reduceNeg, reduceCtorEq, Option.bind_some, Option.map_some, List.length_cons, List.length_nil, vcM, List.getElem?_toArray, List.getElem?_cons_zero, List.getElem?_cons_succ])
            (refine W_at c5_ok ?_; refine ⟨_, rfl, ?_⟩; simp (disch := first | omega | assumption | rfl | (simp only [vcS] <;> omega) | fail) only [↓ptV_l, ↓vcA, vcB, ↓vcD, vcE, ↓reduceIte, Nat.reduceEqDiff, Nat.reduceAdd, Nat.reduceMul, Nat.reduceLeDiff, Int.reduceLE, Int.reduceLT, Int.reduceEq, Int.reduceToNat, Int.reduceAdd, Int.reduceSub, Int.reduceMul, Int.reduceNeg, reduceCtorEq, Option.bind_some, Option.map_some, List.length_cons, List.length_nil, vcM, List.getElem?_toArray, List.getElem?_cons_zero, List.getElem?_cons_succ, k2, eq_self])
            (refine W_at c5_ok ?_; refine ⟨_, rfl, ?_⟩; simp (disch := first | omega | assumption | rfl | (simp only [vcS] <;> omega) | fail) only [↓ptV_l, ↓vcA, vcB, ↓vcD, vcE, ↓reduceIte, Nat.reduceEqDiff, Nat.reduceAdd, Nat.reduceMul, Nat.reduceLeDiff, Int.reduceLE, Int.reduceLT, Int.reduceEq, Int.reduceToNat, Int.reduceAdd, Int.reduceSub, Int.reduceMul, Int.reduceNeg, reduceCtorEq, Option.bind_some, Option.map_some, List.length_cons, List.length_nil, vcM, List.getElem?_toArray, List.getElem?_cons_zero, List.getElem?_cons_succ])
            (refine W_at c5_ok ?_; refine ⟨_, rfl, ?_⟩; simp (disch := first | omega | assumption | rfl | (simp only [vcS] <;> omega) | fail) only [↓ptV_l, ↓vcA, vcB, ↓vcD, vcE, ↓reduceIte, Nat.reduceEqDiff, Nat.reduceAdd, Nat.reduceMul, Nat.reduceLeDiff, Int.reduceLE, Int.reduceLT, Int.reduceEq, Int.reduceToNat, Int.reduceAdd, Int.reduceSub, Int.reduceMul, Int.reduceNeg, reduceCtorEq, Option.bind_some, Option.map_some, List.length_cons, List.length_nil, vcM, List.getElem?_toArray, List.getElem?_cons_zero, List.getElem?_cons_succ])
            refine callV_ret (rcompact_ok wb vb b (hvb.ext hEb) (by omega)) ?_
            rintro _ wc ⟨sn, rn, rfl, hTc, hEc⟩
            have h10c := hEc.at h10 (fun h => h)
            simp (disch := first | omega | assumption | rfl | (simp only [vcS] <;> omega) | fail) only [↓ptV_l, ↓vcA, vcB, ↓vcD, vcE, ↓reduceIte, Nat.reduceEqDiff, Nat.reduceAdd, Nat.reduceMul, Nat.reduceLeDiff, Int.reduceLE, Int.reduceLT, Int.reduceEq, Int.reduceToNat, Int.reduceAdd, Int.reduceSub, Int.reduceMul, Int.reduceNeg, reduceCtorEq, Option.bind_some, Option.map_some, List.length_cons, List.length_nil, vcM, List.getElem?_toArray, List.getElem?_cons_zero, List.getElem?_cons_succ, h10c, hok, hsz]
            refine ⟨⟨hTc.st.1.one, hTc.recs.one⟩, ?_⟩
            have k10 : Keep (fun x => x = p10) wc (wc.putN p10 0 #[sn, rn]) := (Keep.refl _ wc).putN _ fun _ => rfl
            have h10x : Box (wc.putN p10 0 #[sn, rn]) p10 sn rn := by show _ = _; rw [heap_putN_eq h10c, splice_all (by rfl)]
            generalize World.putN _ _ _ _ = wd at k10 h10x ⊢
            have hSd := (hSb.ext hEc).box h10c k10
            have hTwd := (hTb.ext hEc).box h10c k10
            have hTnd : TAt (fun g => ¬ blk rv g) wd sn rn (J.cmp b).state (J.cmp b).recs := (hTc.mono fun x hx hb => by have := hSb.lt (.inr (.inr hb)); omega).box h10c k10
            have h6d := k10.at (hEc.at h6b fun h => h) (by omega)
            have n8 : ∀ {c}, wc.heap[p8]? = some (.cells c 36 (0, 0)) → ¬ p8 = p10 := fun {c} hg e => by rw [e, h10c] at hg; cases hg
            have hb8d := k10.at (hEc.at hb8b fun h => h) (n8 (hEc.at hb8b fun h => h))
            have hEd : Ext w wd := (hEb.ext hEc).trans k10 fun i hi e => by omega
            (refine W_at c5_ok ?_; refine ⟨_, rfl, ?_⟩; simp (disch := first | omega | assumption | rfl | (simp only [vcS] <;> omega) | fail) only [↓ptV_l, ↓vcA, vcB, ↓vcD, vcE, ↓reduceIte, Nat.reduceEqDiff, Nat.reduceAdd, Nat.reduceMul, Nat.reduceLeDiff, Int.reduceLE, Int.reduceLT, Int.reduceEq, Int.reduceToNat, Int.reduceAdd, Int.reduceSub, Int.reduceMul, Int.reduceNeg, reduceCtorEq, Option.bind_some, Option.map_some, List.length_cons, List.length_nil, vcM, List.getElem?_toArray, List.getElem?_cons_zero, List.getElem?_cons_succ])
            refine callV_ret (copy_ok wd vb b (hvb.ext hEd) (by omega)) ?_
            intro cv we hN
            have hEe := hN.ext
            first | (simp (disch := first | omega | assumption | rfl | (simp only [vcS] <;> omega) | fail) only [↓ptV_l, ↓vcA, vcB, ↓vcD, vcE, ↓reduceIte, Nat.reduceEqDiff, Nat.reduceAdd, Nat.reduceMul, Nat.reduceLeDiff, Int.reduceLE, Int.reduceLT, Int.reduceEq, Int.reduceToNat, Int.reduceAdd, Int.reduceSub, Int.reduceMul, Int.reduceNeg, reduceCtorEq, Option.bind_some, Option.map_some, List.length_cons, List.length_nil, vcM, List.getElem?_toArray, List.getElem?_cons_zero, List.getElem?_cons_succ]) | skip
            refine callV_ret (Compact_ok we jp p r sv rv qv J d1 cv b (hSd.ext hEe).j (hSd.ext hEe).d hG (ByT.own hN.own).x hbb (by omega)) ?_
            intro u wf hAp
            have hroom : b.length + 6 ≤ 64 * secs d1.n := by rw [hn]; have : secs 1200 = 599 := rfl; omega
            obtain ⟨e, d', rfl, hAT, hT'⟩ := cmpR_armed (by omega) hroom hAp
            obtain ⟨sv', rv', qv', hSt⟩ := JTo.step (hSd.ext hEe) (hEd.ext hEe).size hT'
            first | (simp (disch := first | omega | assumption | rfl | (simp only [vcS] <;> omega) | fail) only [↓ptV_l, ↓vcA, vcB, ↓vcD, vcE, ↓reduceIte, Nat.reduceEqDiff, Nat.reduceAdd, Nat.reduceMul, Nat.reduceLeDiff, Int.reduceLE, Int.reduceLT, Int.reduceEq, Int.reduceToNat, Int.reduceAdd, Int.reduceSub, Int.reduceMul, Int.reduceNeg, reduceCtorEq, Option.bind_some, Option.map_some, List.length_cons, List.length_nil, vcM, List.getElem?_toArray, List.getElem?_cons_zero, List.getElem?_cons_succ]) | skip
            refine after wf p10 p8 sv' rv' qv' sw rw sn rn (J.cmp b) d' e ⟨hSt.sys, hAT.n.trans hn, hAT.ok, ?_⟩ (fun h => by omega) hsm.next (Small.cmp hbl) ⟨hbb, fun x hx => by cases hx⟩ (StepTo.tat (hSd.ext hEe) hSt (hTwd.ext hEe)) (StepTo.tat (hSd.ext hEe) hSt (hTnd.ext hEe)) (hSt.keep.at (hEe.at h6d fun h => h) ?_) (hSt.keep.at (hEe.at h10x fun h => h) ?_) (by omega) (hSt.keep.at (hEe.at hb8d fun h => h) ?_) ((hEd.ext hEe).trans hSt.keep fun i hi hg => by have := hSd.base i hg; omega)
            · rcases hAT.res with ⟨h1, h2⟩ | ⟨h1, _, h3⟩
              · exact .inl ⟨h1, h2⟩
              · exact .inr ⟨h1, h3⟩
            · exact Box.ne (hEe.at h6d fun h => h) (hSd.ext hEe)
            · exact Box.ne (hEe.at h10x fun h => h) (hSd.ext hEe)
            · exact (hSd.ext hEe).nb (hEe.at hb8d fun h => h) (by decide) (by decide) (by decide) (by decide)
          · (refine W_at c5_ok ?_; refine ⟨_, rfl, ?_⟩; simp (disch := first | omega | assumption | rfl | (simp only [vcS] <;> omega) | fail) only [↓ptV_l, ↓vcA, vcB, ↓vcD, vcE, ↓reduceIte, Nat.reduceEqDiff, Nat.reduceAdd, Nat.reduceMul, Nat.reduceLeDiff, Int.reduceLE, Int.reduceLT, Int.reduceEq, Int.reduceToNat, Int.reduceAdd, Int.reduceSub, Int.reduceMul, Int.reduceNeg, reduceCtorEq, Option.bind_some, Option.map_some, List.length_cons, List.length_nil, vcM, List.getElem?_toArray, List.getElem?_cons_zero, List.getElem?_cons_succ, k1])
            (refine W_at c5_ok ?_; refine ⟨_, rfl, ?_⟩; simp (disch := first | omega | assumption | rfl | (simp only [vcS] <;> omega) | fail) only [↓ptV_l, ↓vcA, vcB, ↓vcD, vcE, ↓reduceIte, Nat.reduceEqDiff, Nat.reduceAdd, Nat.reduceMul, Nat.reduceLeDiff, Int.reduceLE, Int.reduceLT, Int.reduceEq, Int.reduceToNat, Int.reduceAdd, Int.reduceSub, Int.reduceMul, Int.reduceNeg, reduceCtorEq, Option.bind_some, Option.map_some, List.length_cons, List.length_nil, vcM, List.getElem?_toArray, List.getElem?_cons_zero, List.getElem?_cons_succ])
            (refine W_at c5_ok ?_; refine ⟨_, rfl, ?_⟩; simp (disch := first | omega | assumption | rfl | (simp only [vcS] <;> omega) | fail) only [↓ptV_l, ↓vcA, vcB, ↓vcD, vcE, ↓reduceIte, Nat.reduceEqDiff, Nat.reduceAdd, Nat.reduceMul, Nat.reduceLeDiff, Int.reduceLE, Int.reduceLT, Int.reduceEq, Int.reduceToNat, Int.reduceAdd, Int.reduceSub, Int.reduceMul, Int.reduceNeg, reduceCtorEq, Option.bind_some, Option.map_some, List.length_cons, List.length_nil, vcM, List.getElem?_toArray, List.getElem?_cons_zero, List.getElem?_cons_succ, k2])
            (refine W_at c5_ok ?_; refine ⟨_, rfl, ?_⟩; simp (disch := first | omega | assumption | rfl | (simp only [vcS] <;> omega) | fail) only [↓ptV_l, ↓vcA, vcB, ↓vcD, vcE, ↓reduceIte, Nat.reduceEqDiff, Nat.reduceAdd, Nat.reduceMul, Nat.reduceLeDiff, Int.reduceLE, Int.reduceLT, Int.reduceEq, Int.reduceToNat, Int.reduceAdd, Int.reduceSub, Int.reduceMul, Int.reduceNeg, reduceCtorEq, Option.bind_some, Option.map_some, List.length_cons, List.length_nil, vcM, List.getElem?_toArray, List.getElem?_cons_zero, List.getElem?_cons_succ])
            (refine W_at c5_ok ?_; refine ⟨_, rfl, ?_⟩; simp (disch := first | omega | assumption | rfl | (simp only [vcS] <;> omega) | fail) only [↓ptV_l, ↓vcA, vcB, ↓vcD, vcE, ↓reduceIte, Nat.reduceEqDiff, Nat.reduceAdd, Nat.reduceMul, Nat.reduceLeDiff, Int.reduceLE, Int.reduceLT, Int.reduceEq, Int.reduceToNat, Int.reduceAdd, Int.reduceSub, Int.reduceMul, Int.reduceNeg, reduceCtorEq, Option.bind_some, Option.map_some, List.length_cons, List.length_nil, vcM, List.getElem?_toArray, List.getElem?_cons_zero, List.getElem?_cons_succ])
            exact after wb p10 p8 sv rv qv sw rw sw rw J d1 0 ⟨by rw [if_pos rfl]; exact hSb, hn, hG.inv.ok, .inl ⟨rfl, hG⟩⟩ (fun h => ⟨rfl, rfl⟩) hsm.next hsm.next hby hTb hTb h6b h10 (by omega) hb8b hEb
      have hT8 := hT.ext hE8
      have hS8 := hS.ext hE8
      have h68 := hE8.at h6 (fun h => h)
      have hEw8 := hE.ext hE8
      by_cases harm : arm > 0
      · have hna := hact.arm
        have hw1 : IntKind.i64.wrap (arm - 1) = arm - 1 := wrap_i64 (by omega) (by omega)
        have ht1 := Int.tmod_lt_of_pos (arm - 1) (show (0 : Int) < 12 by omega)
        have ht2 := Int.lt_tmod_of_pos (arm - 1) (show (0 : Int) < 12 by omega)
        (refine W_at c5_ok ?_; refine ⟨_, rfl, ?_⟩; simp (disch := first | omega | assumption | rfl | (simp only [vcS] <;> omega) | fail) only [↓ptV_l, ↓vcA, vcB, ↓vcD, vcE, ↓reduceIte, Nat.reduceEqDiff, Nat.reduceAdd, Nat.reduceMul, Nat.reduceLeDiff, Int.reduceLE, Int.reduceLT, Int.reduceEq, Int.reduceToNat, Int.reduceAdd, Int.reduceSub, Int.reduceMul, Int.reduceNeg, reduceCtorEq, Option.bind_some, Option.map_some, List.length_cons, List.length_nil, vcM, List.getElem?_toArray, List.getElem?_cons_zero, List.getElem?_cons_succ, hb8, harm])
        (refine W_at c5_ok ?_; refine ⟨_, rfl, ?_⟩; simp (disch := first | omega | assumption | rfl | (simp only [vcS] <;> omega) | fail) only [↓ptV_l, ↓vcA, vcB, ↓vcD, vcE, ↓reduceIte, Nat.reduceEqDiff, Nat.reduceAdd, Nat.reduceMul, Nat.reduceLeDiff, Int.reduceLE, Int.reduceLT, Int.reduceEq, Int.reduceToNat, Int.reduceAdd, Int.reduceSub, Int.reduceMul, Int.reduceNeg, reduceCtorEq, Option.bind_some, Option.map_some, List.length_cons, List.length_nil, vcM, List.getElem?_toArray, List.getElem?_cons_zero, List.getElem?_cons_succ])
        (refine W_at c5_ok ?_; refine ⟨_, rfl, ?_⟩; simp (disch := first | omega | assumption | rfl | (simp only [vcS] <;> omega) | fail) only [↓ptV_l, ↓vcA, vcB, ↓vcD, vcE, ↓reduceIte, Nat.reduceEqDiff, Nat.reduceAdd, Nat.reduceMul, Nat.reduceLeDiff, Int.reduceLE, Int.reduceLT, Int.reduceEq, Int.reduceToNat, Int.reduceAdd, Int.reduceSub, Int.reduceMul, Int.reduceNeg, reduceCtorEq, Option.bind_some, Option.map_some, List.length_cons, List.length_nil, vcM, List.getElem?_toArray, List.getElem?_cons_zero, List.getElem?_cons_succ, hb8, hw1])
        refine callV_ret (arm_ok w8 p r qv d ((arm - 1).tmod 12) hS8.d (by omega)) ?_
        rintro _ wa ⟨hDa, hka⟩
        first | (simp (disch := first | omega | assumption | rfl | (simp only [vcS] <;> omega) | fail) only [↓ptV_l, ↓vcA, vcB, ↓vcD, vcE, ↓reduceIte, Nat.reduceEqDiff, Nat.reduceAdd, Nat.reduceMul, Nat.reduceLeDiff, Int.reduceLE, Int.reduceLT, Int.reduceEq, Int.reduceToNat, Int.reduceAdd, Int.reduceSub, Int.reduceMul, Int.reduceNeg, reduceCtorEq, Option.bind_some, Option.map_some, List.length_cons, List.length_nil, vcM, List.getElem?_toArray, List.getElem?_cons_zero, List.getElem?_cons_succ]) | skip
        have nb : ∀ {g c t}, w8.heap[g]? = some (.cells c t (0, 0)) → t ≠ 58 → ¬ g = p := fun {g c t} hg ht e => by
          obtain ⟨f, a, h1, _⟩ := hS8.d.obj
          rw [e, h1] at hg; cases hg; exact ht rfl
        exact cont wa _ [] (hS8.armed hDa hka) (arm_good hG (by omega)) hn (hS8.d.tat (hka.mono fun x hx => .inl hx) hT8) (hka.at h68 (nb h68 (by decide))) (hka.at hb8 (nb hb8 (by decide))) (hEw8.trans hka fun i hi e => by have := hS8.base p (.inr (.inl (.inl rfl))); omega)
      · (refine W_at c5_ok ?_; refine ⟨_, rfl, ?_⟩; simp (disch := first | omega | assumption | rfl | (simp only [vcS] <;> omega) | fail) only [↓ptV_l, ↓vcA, vcB, ↓vcD, vcE, ↓reduceIte, Nat.reduceEqDiff, Nat.reduceAdd, Nat.reduceMul, Nat.reduceLeDiff, Int.reduceLE, Int.reduceLT, Int.reduceEq, Int.reduceToNat, Int.reduceAdd, Int.reduceSub, Int.reduceMul, Int.reduceNeg, reduceCtorEq, Option.bind_some, Option.map_some, List.length_cons, List.length_nil, vcM, List.getElem?_toArray, List.getElem?_cons_zero, List.getElem?_cons_succ, hb8, harm])
        (refine W_at c5_ok ?_; refine ⟨_, rfl, ?_⟩; simp (disch := first | omega | assumption | rfl | (simp only [vcS] <;> omega) | fail) only [↓ptV_l, ↓vcA, vcB, ↓vcD, vcE, ↓reduceIte, Nat.reduceEqDiff, Nat.reduceAdd, Nat.reduceMul, Nat.reduceLeDiff, Int.reduceLE, Int.reduceLT, Int.reduceEq, Int.reduceToNat, Int.reduceAdd, Int.reduceSub, Int.reduceMul, Int.reduceNeg, reduceCtorEq, Option.bind_some, Option.map_some, List.length_cons, List.length_nil, vcM, List.getElem?_toArray, List.getElem?_cons_zero, List.getElem?_cons_succ])
        exact cont w8 d _ hS8 hG hn hT8 h68 hb8 hEw8
  exact L 25 0 w4 jp sv rv _ _ _ J0 d0 (by omega) hS4 hG0 hl0 hn0 ⟨by simp [J0], by simp [J0], by simp [J0], fun b hb => by cases hb⟩ (TAt.nil _ _) hp6 hEE4
end Go.Proofs
