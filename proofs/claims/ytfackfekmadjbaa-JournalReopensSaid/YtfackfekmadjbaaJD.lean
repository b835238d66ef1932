/- The document's journal in memory; what a journal tells. -/
import Derived.Test.YtfackfekmadjbaaJC
set_option linter.unusedSimpArgs false
set_option linter.unusedVariables false
set_option linter.constructorNameAsVariable false
namespace Go.Proofs
open Go.Vc
set_option maxRecDepth 10000

/-- A state and records in memory, in blocks of a kind. -/
structure TAt (B : Nat → Prop) (w : World) (sv rv : Value) (S : List Int) (R : List (List Int)) : Prop where
  st : ByT w sv S
  stB : ∀ g, blk sv g → B g
  rvB : ∀ g, blk rv g → B g
  rows : ∃ vs : List Value, OwnO w 0 30 1 rv (vs.map fun v => #[v]) ∧ AllB w vs R ∧ ∀ v ∈ vs, ∀ g, blk v g → B g
theorem ByT.keepB {S : Nat → Prop} {w w' : World} {v : Value} {bs : List Int} (h : ByT w v bs) (k : Keep S w w') (hS : ∀ g, blk v g → ¬ S g) : ByT w' v bs := by
  refine ⟨h.1.keep k fun q n c e => hS _ (by rw [e]; rfl), fun g hg => ?_⟩
  obtain ⟨c, hc⟩ := h.2 g hg
  exact ⟨c, k.at hc (hS g hg)⟩
theorem ByT.lt {w : World} {v : Value} {bs : List Int} (h : ByT w v bs) {g : Nat} (hg : blk v g) : g < w.heap.size := by
  obtain ⟨c, hc⟩ := h.2 g hg
  exact lt_of_heap hc
theorem AllB.mem {w : World} {vs : List Value} {rs : List (List Int)} (h : AllB w vs rs) : ∀ v ∈ vs, ∃ b, ByT w v b := by
  induction h with
  | nil => intro v hv; cases hv
  | cons h _ ih =>
    intro v hv
    rcases List.mem_cons.1 hv with rfl | hv
    · exact ⟨_, h⟩
    · exact ih v hv
theorem AllB.keepB {S : Nat → Prop} {w w' : World} {vs : List Value} {rs : List (List Int)} (h : AllB w vs rs) (k : Keep S w w') (hS : ∀ v ∈ vs, ∀ g, blk v g → ¬ S g) : AllB w' vs rs := by
  induction h with
  | nil => exact .nil
  | cons h _ ih => exact .cons (h.keepB k (hS _ (by simp))) (ih fun v hv => hS v (by simp [hv]))
theorem TAt.keep {B S : Nat → Prop} {w w' : World} {sv rv : Value} {A : List Int} {R : List (List Int)} (h : TAt B w sv rv A R) (k : Keep S w w') (hS : ∀ g, B g → ¬ S g) : TAt B w' sv rv A R := by
  obtain ⟨vs, h1, h2, h3⟩ := h.rows
  exact ⟨h.st.keepB k fun g hg => hS g (h.stB g hg), h.stB, h.rvB, vs, h1.keep k fun g hg => hS g (h.rvB g hg), h2.keepB k fun v hv g hg => hS g (h3 v hv g hg), h3⟩
theorem TAt.ext {B : Nat → Prop} {w w' : World} {sv rv : Value} {A : List Int} {R : List (List Int)} (h : TAt B w sv rv A R) (k : Ext w w') : TAt B w' sv rv A R := h.keep k fun _ _ h => h
theorem TAt.mono {B B' : Nat → Prop} {w : World} {sv rv : Value} {A : List Int} {R : List (List Int)} (h : TAt B w sv rv A R) (k : ∀ g, B g → B' g) : TAt B' w sv rv A R := by
  obtain ⟨vs, h1, h2, h3⟩ := h.rows
  exact ⟨h.st, fun g hg => k g (h.stB g hg), fun g hg => k g (h.rvB g hg), vs, h1, h2, fun v hv g hg => k g (h3 v hv g hg)⟩
theorem TAt.all {B : Nat → Prop} {w : World} {sv rv : Value} {A : List Int} {R : List (List Int)} (h : TAt B w sv rv A R) : TAt (fun g => B g ∧ g < w.heap.size) w sv rv A R := by
  obtain ⟨vs, h1, h2, h3⟩ := h.rows
  refine ⟨h.st, fun g hg => ⟨h.stB g hg, h.st.lt hg⟩, fun g hg => ⟨h.rvB g hg, (h1.blk hg).2.elim fun c hc => lt_of_heap hc⟩, vs, h1, h2, fun v hv g hg => ⟨h3 v hv g hg, ?_⟩⟩
  obtain ⟨b, hb⟩ := h2.mem v hv
  exact hb.lt hg
theorem TAt.recs {B : Nat → Prop} {w : World} {sv rv : Value} {A : List Int} {R : List (List Int)} (h : TAt B w sv rv A R) : RowsT w rv R := by
  obtain ⟨vs, h1, h2, _⟩ := h.rows
  exact ⟨vs, h1, h2⟩
theorem TAt.nil (B : Nat → Prop) (w : World) : TAt B w (.slice none 0 0) (.slice none 0 0) [] [] := ⟨ByT.nil w, fun g hg => (by cases hg), fun g hg => (by cases hg), [], OwnO.nil _ _ _ _, .nil, fun v hv => by cases hv⟩
/-- A journal's own parts. -/
theorem JAt.lt_in {w : World} {jp p : Nat} {sv rv : Value} {J : JS} (h : JAt w jp p sv rv J) : JIn (fun g => g < w.heap.size) w jp := by
  obtain ⟨vs, h1, h2⟩ := h.recs
  refine ⟨_, _, _, sv, rv, h.obj, fun g hg => h.state.lt hg, vs, h1, fun v hv g hg => ?_⟩
  obtain ⟨b, hb⟩ := h2.mem v hv
  exact hb.lt hg
theorem JAt.keepB {B S : Nat → Prop} {w w' : World} {jp p : Nat} {sv rv : Value} {J : JS} (h : JAt w jp p sv rv J) (hi : JIn B w jp) (k : Keep S w w') (h1 : ¬ S jp) (h2 : ∀ g, blk rv g → ¬ S g) (hS : ∀ g, B g → ¬ S g) : JAt w' jp p sv rv J := by
  obtain ⟨vs, a1, a2⟩ := h.recs
  obtain ⟨b1, b2⟩ := hi.is h a1
  exact ⟨k.at h.obj h1, h.state.keepB k fun g hg => hS g (b1 g hg), vs, a1.keep k h2, a2.keepB k fun v hv g hg => hS g (b2 v hv g hg)⟩

theorem same_ok (w : World) (x y : Value) (xs ys : List (List Int)) (hx : RowsT w x xs) (hy : RowsT w y ys) (hbx : ∀ p ∈ xs, byt p) (hby : ∀ p ∈ ys, byt p) (hl : xs.length ≤ 100000000) :
    Calls Try.prog 39 #[x, y] w (Ret fun u w' => u = .bool (decide (xs = ys)) ∧ Ext w w') := by
  refine calls_of_cfg c39_ok (Nat.le_of_ble_eq_true rfl) ?_
  simp only [argE_nil, argE_cons, Nat.reduceAdd, Nat.zero_add]
  have hlx := hx.len
  have hly := hy.len
  (refine W_at c39_ok ?_; refine ⟨_, rfl, ?_⟩; simp (disch := first | omega | assumption | rfl | (simp only [vcS] <;> omega) | fail) only [↓ptV_l, ↓vcA, vcB, ↓vcD, vcE, ↓reduceIte, Nat.reduceEqDiff, Nat.reduceAdd, Nat.reduceMul, Nat.reduceLeDiff, Int.reduceLE, Int.reduceLT, Int.reduceEq, Int.reduceToNat, Int.reduceAdd, Int.reduceSub, Int.reduceMul, Int.reduceNeg, reduceCtorEq, Option.bind_some, Option.map_some, List.length_cons, List.length_nil, vcM, List.getElem?_toArray, List.getElem?_cons_zero, List.getElem?_cons_succ])
  by_cases hll : xs.length = ys.length
  case neg =>
    have hne : ¬ ((xs.length : Nat) : Int) = (ys.length : Nat) := by omega
    have hd : decide (xs = ys) = false := decide_eq_false fun e => hll (by rw [e])
    (refine W_at c39_ok ?_; refine ⟨_, rfl, ?_⟩; simp (disch := first | omega | assumption | rfl | (simp only [vcS] <;> omega) | fail) only [↓ptV_l, ↓vcA, vcB, ↓vcD, vcE, ↓reduceIte, Nat.reduceEqDiff, Nat.reduceAdd, Nat.reduceMul, Nat.reduceLeDiff, Int.reduceLE, Int.reduceLT, Int.reduceEq, Int.reduceToNat, Int.reduceAdd, Int.reduceSub, Int.reduceMul, Int.reduceNeg, reduceCtorEq, Option.bind_some, Option.map_some, List.length_cons, List.length_nil, vcM, List.getElem?_toArray, List.getElem?_cons_zero, List.getElem?_cons_succ, hlx, hly, hne])
    (refine W_at c39_ok ?_; refine ⟨_, rfl, ?_⟩; simp (disch := first | omega | assumption | rfl | (simp only [vcS] <;> omega) | fail) only [↓ptV_l, ↓vcA, vcB, ↓vcD, vcE, ↓reduceIte, Nat.reduceEqDiff, Nat.reduceAdd, Nat.reduceMul, Nat.reduceLeDiff, Int.reduceLE, Int.reduceLT, Int.reduceEq, Int.reduceToNat, Int.reduceAdd, Int.reduceSub, Int.reduceMul, Int.reduceNeg, reduceCtorEq, Option.bind_some, Option.map_some, List.length_cons, List.length_nil, vcM, List.getElem?_toArray, List.getElem?_cons_zero, List.getElem?_cons_succ])
    (refine W_at c39_ok ?_; refine ⟨_, rfl, ?_⟩; simp (disch := first | omega | assumption | rfl | (simp only [vcS] <;> omega) | fail) only [↓ptV_l, ↓vcA, vcB, ↓vcD, vcE, ↓reduceIte, Nat.reduceEqDiff, Nat.reduceAdd, Nat.reduceMul, Nat.reduceLeDiff, Int.reduceLE, Int.reduceLT, Int.reduceEq, Int.reduceToNat, Int.reduceAdd, Int.reduceSub, Int.reduceMul, Int.reduceNeg, reduceCtorEq, Option.bind_some, Option.map_some, List.length_cons, List.length_nil, vcM, List.getElem?_toArray, List.getElem?_cons_zero, List.getElem?_cons_succ])
    (refine W_at c39_ok ?_; refine ⟨_, rfl, ?_⟩; simp (disch := first | omega | assumption | rfl | (simp only [vcS] <;> omega) | fail) only [↓ptV_l, ↓vcA, vcB, ↓vcD, vcE, ↓reduceIte, Nat.reduceEqDiff, Nat.reduceAdd, Nat.reduceMul, Nat.reduceLeDiff, Int.reduceLE, Int.reduceLT, Int.reduceEq, Int.reduceToNat, Int.reduceAdd, Int.reduceSub, Int.reduceMul, Int.reduceNeg, reduceCtorEq, Option.bind_some, Option.map_some, List.length_cons, List.length_nil, vcM, List.getElem?_toArray, List.getElem?_cons_zero, List.getElem?_cons_succ, Ret_returned])
    exact ⟨by rw [hd], Keep.refl _ w⟩
  have heq : ((xs.length : Nat) : Int) = (ys.length : Nat) := by omega
  (refine W_at c39_ok ?_; refine ⟨_, rfl, ?_⟩; simp (disch := first | omega | assumption | rfl | (simp only [vcS] <;> omega) | fail) only [↓ptV_l, ↓vcA, vcB, ↓vcD, vcE, ↓reduceIte, Nat.reduceEqDiff, Nat.reduceAdd, Nat.reduceMul, Nat.reduceLeDiff, Int.reduceLE, Int.reduceLT, Int.reduceEq, Int.reduceToNat, Int.reduceAdd, Int.reduceSub, Int.reduceMul, Int.reduceNeg, reduceCtorEq, Option.bind_some, Option.map_some, List.length_cons, List.length_nil, vcM, List.getElem?_toArray, List.getElem?_cons_zero, List.getElem?_cons_succ, hlx, hly, heq])
  (refine W_at c39_ok ?_; refine ⟨_, rfl, ?_⟩; simp (disch := first | omega | assumption | rfl | (simp only [vcS] <;> omega) | fail) only [↓ptV_l, ↓vcA, vcB, ↓vcD, vcE, ↓reduceIte, Nat.reduceEqDiff, Nat.reduceAdd, Nat.reduceMul, Nat.reduceLeDiff, Int.reduceLE, Int.reduceLT, Int.reduceEq, Int.reduceToNat, Int.reduceAdd, Int.reduceSub, Int.reduceMul, Int.reduceNeg, reduceCtorEq, Option.bind_some, Option.map_some, List.length_cons, List.length_nil, vcM, List.getElem?_toArray, List.getElem?_cons_zero, List.getElem?_cons_succ])
  (refine W_at c39_ok ?_; refine ⟨_, rfl, ?_⟩; simp (disch := first | omega | assumption | rfl | (simp only [vcS] <;> omega) | fail) only [↓ptV_l, ↓vcA, vcB, ↓vcD, vcE, ↓reduceIte, Nat.reduceEqDiff, Nat.reduceAdd, Nat.reduceMul, Nat.reduceLeDiff, Int.reduceLE, Int.reduceLT, Int.reduceEq, Int.reduceToNat, Int.reduceAdd, Int.reduceSub, Int.reduceMul, Int.reduceNeg, reduceCtorEq, Option.bind_some, Option.map_some, List.length_cons, List.length_nil, vcM, List.getElem?_toArray, List.getElem?_cons_zero, List.getElem?_cons_succ])
  have L : ∀ (k i : Nat) (wj : World), k + i = xs.length → Ext w wj → xs.take i = ys.take i → W Try.prog (Ret fun u w' => u = .bool (decide (xs = ys)) ∧ Ext w w') 39 10 [(0, x), (1, y), (5, .int .i64 i)] wj := by
    intro k
    induction k with
    | zero =>
      intro i wj hi hE ht
      have hlt : ¬ ((i : Int) < (xs.length : Nat)) := by omega
      have hd : decide (xs = ys) = true := decide_eq_true (by rwa [List.take_of_length_le (by omega), List.take_of_length_le (by omega)] at ht)
      (refine W_at c39_ok ?_; refine ⟨_, rfl, ?_⟩; simp (disch := first | omega | assumption | rfl | (simp only [vcS] <;> omega) | fail) only [↓ptV_l, ↓vcA, vcB, ↓vcD, vcE, ↓reduceIte, Nat.reduceEqDiff, Nat.reduceAdd, Nat.reduceMul, Nat.reduceLeDiff, Int.reduceLE, Int.reduceLT, Int.reduceEq, Int.reduceToNat, Int.reduceAdd, Int.reduceSub, Int.reduceMul, Int.reduceNeg, reduceCtorEq, Option.bind_some, Option.map_some, List.length_cons, List.length_nil, vcM, List.getElem?_toArray, List.getElem?_cons_zero, List.getElem?_cons_succ, hlx, hlt])
      (refine W_at c39_ok ?_; refine ⟨_, rfl, ?_⟩; simp (disch := first | omega | assumption | rfl | (simp only [vcS] <;> omega) | fail) only [↓ptV_l, ↓vcA, vcB, ↓vcD, vcE, ↓reduceIte, Nat.reduceEqDiff, Nat.reduceAdd, Nat.reduceMul, Nat.reduceLeDiff, Int.reduceLE, Int.reduceLT, Int.reduceEq, Int.reduceToNat, Int.reduceAdd, Int.reduceSub, Int.reduceMul, Int.reduceNeg, reduceCtorEq, Option.bind_some, Option.map_some, List.length_cons, List.length_nil, vcM, List.getElem?_toArray, List.getElem?_cons_zero, List.getElem?_cons_succ])
      (refine W_at c39_ok ?_; refine ⟨_, rfl, ?_⟩; simp (disch := first | omega | assumption | rfl | (simp only [vcS] <;> omega) | fail) only [↓ptV_l, ↓vcA, vcB, ↓vcD, vcE, ↓reduceIte, Nat.reduceEqDiff, Nat.reduceAdd, Nat.reduceMul, Nat.reduceLeDiff, Int.reduceLE, Int.reduceLT, Int.reduceEq, Int.reduceToNat, Int.reduceAdd, Int.reduceSub, Int.reduceMul, Int.reduceNeg, reduceCtorEq, Option.bind_some, Option.map_some, List.length_cons, List.length_nil, vcM, List.getElem?_toArray, List.getElem?_cons_zero, List.getElem?_cons_succ])
      (refine W_at c39_ok ?_; refine ⟨_, rfl, ?_⟩; simp (disch := first | omega | assumption | rfl | (simp only [vcS] <;> omega) | fail) only [↓ptV_l, ↓vcA, vcB, ↓vcD, vcE, ↓reduceIte, Nat.reduceEqDiff, Nat.reduceAdd, Nat.reduceMul, Nat.reduceLeDiff, Int.reduceLE, Int.reduceLT, Int.reduceEq, Int.reduceToNat, Int.reduceAdd, Int.reduceSub, Int.reduceMul, Int.reduceNeg, reduceCtorEq, Option.bind_some, Option.map_some, List.length_cons, List.length_nil, vcM, List.getElem?_toArray, List.getElem?_cons_zero, List.getElem?_cons_succ, Ret_returned])
      exact ⟨by rw [hd], hE⟩
    | succ k ih =>
      intro i wj hi hE ht
      have hlt : (i : Int) < (xs.length : Nat) := by omega
      have hi2 : 0 ≤ (i : Int) ∧ (i : Int) < (xs.length : Nat) := by omega
      have hi3 : 0 ≤ (i : Int) ∧ (i : Int) < (ys.length : Nat) := by omega
      have hwi : IntKind.i64.wrap ((i : Int) + 1) = ((i + 1 : Nat) : Int) := wrap_i64 (by omega) (by omega)
      have hip : i < xs.length := by omega
      have hiq : i < ys.length := by omega
      obtain ⟨bx, ox, cx, vx, ex, hcx, hvx⟩ := (hx.ext hE).at hip
      obtain ⟨b2, oy, cy, vy, ey, hcy, hvy⟩ := (hy.ext hE).at hiq
      subst ex ey
      have h1 := hvx.1.ext (show Ext wj wj.drew from (Keep.refl _ wj).drew)
      have h2 := hvy.1.ext (show Ext wj wj.drew from (Keep.refl _ wj).drew)
      (refine W_at c39_ok ?_; refine ⟨_, rfl, ?_⟩; simp (disch := first | omega | assumption | rfl | (simp only [vcS] <;> omega) | fail) only [↓ptV_l, ↓vcA, vcB, ↓vcD, vcE, ↓reduceIte, Nat.reduceEqDiff, Nat.reduceAdd, Nat.reduceMul, Nat.reduceLeDiff, Int.reduceLE, Int.reduceLT, Int.reduceEq, Int.reduceToNat, Int.reduceAdd, Int.reduceSub, Int.reduceMul, Int.reduceNeg, reduceCtorEq, Option.bind_some, Option.map_some, List.length_cons, List.length_nil, vcM, List.getElem?_toArray, List.getElem?_cons_zero, List.getElem?_cons_succ, hlx, hlt])
      (refine W_at c39_ok ?_; refine ⟨_, rfl, ?_⟩; simp (disch := first | omega | assumption | rfl | (simp only [vcS] <;> omega) | fail) only [↓ptV_l, ↓vcA, vcB, ↓vcD, vcE, ↓reduceIte, Nat.reduceEqDiff, Nat.reduceAdd, Nat.reduceMul, Nat.reduceLeDiff, Int.reduceLE, Int.reduceLT, Int.reduceEq, Int.reduceToNat, Int.reduceAdd, Int.reduceSub, Int.reduceMul, Int.reduceNeg, reduceCtorEq, Option.bind_some, Option.map_some, List.length_cons, List.length_nil, vcM, List.getElem?_toArray, List.getElem?_cons_zero, List.getElem?_cons_succ])
      (refine W_at c39_ok ?_; refine ⟨_, rfl, ?_⟩; simp (disch := first | omega | assumption | rfl | (simp only [vcS] <;> omega) | fail) only [↓ptV_l, ↓vcA, vcB, ↓vcD, vcE, ↓reduceIte, Nat.reduceEqDiff, Nat.reduceAdd, Nat.reduceMul, Nat.reduceLeDiff, Int.reduceLE, Int.reduceLT, Int.reduceEq, Int.reduceToNat, Int.reduceAdd, Int.reduceSub, Int.reduceMul, Int.reduceNeg, reduceCtorEq, Option.bind_some, Option.map_some, List.length_cons, List.length_nil, vcM, List.getElem?_toArray, List.getElem?_cons_zero, List.getElem?_cons_succ, hi2, hi3, Int.toNat_natCast, Nat.mul_one, hcx, hcy])
      refine callV_ret (equal_ok wj.drew _ _ xs[i] ys[i] h1 h2 (hbx _ (List.getElem_mem hip)) (hby _ (List.getElem_mem hiq))) ?_
      rintro _ wq ⟨rfl, hw⟩
      obtain rfl : wj.drew = wq := hw.symm
      by_cases he : xs[i] = ys[i]
      · rw [show decide (xs[i] = ys[i]) = true from decide_eq_true he]
        first | (simp (disch := first | omega | assumption | rfl | (simp only [vcS] <;> omega) | fail) only [↓ptV_l, ↓vcA, vcB, ↓vcD, vcE, ↓reduceIte, Nat.reduceEqDiff, Nat.reduceAdd, Nat.reduceMul, Nat.reduceLeDiff, Int.reduceLE, Int.reduceLT, Int.reduceEq, Int.reduceToNat, Int.reduceAdd, Int.reduceSub, Int.reduceMul, Int.reduceNeg, reduceCtorEq, Option.bind_some, Option.map_some, List.length_cons, List.length_nil, vcM, List.getElem?_toArray, List.getElem?_cons_zero, List.getElem?_cons_succ]) | skip
        (refine W_at c39_ok ?_; refine ⟨_, rfl, ?_⟩; simp (disch := first | omega | assumption | rfl | (simp only [vcS] <;> omega) | fail) only [↓ptV_l, ↓vcA, vcB, ↓vcD, vcE, ↓reduceIte, Nat.reduceEqDiff, Nat.reduceAdd, Nat.reduceMul, Nat.reduceLeDiff, Int.reduceLE, Int.reduceLT, Int.reduceEq, Int.reduceToNat, Int.reduceAdd, Int.reduceSub, Int.reduceMul, Int.reduceNeg, reduceCtorEq, Option.bind_some, Option.map_some, List.length_cons, List.length_nil, vcM, List.getElem?_toArray, List.getElem?_cons_zero, List.getElem?_cons_succ])
        (refine W_at c39_ok ?_; refine ⟨_, rfl, ?_⟩; simp (disch := first | omega | assumption | rfl | (simp only [vcS] <;> omega) | fail) only [↓ptV_l, ↓vcA, vcB, ↓vcD, vcE, ↓reduceIte, Nat.reduceEqDiff, Nat.reduceAdd, Nat.reduceMul, Nat.reduceLeDiff, Int.reduceLE, Int.reduceLT, Int.reduceEq, Int.reduceToNat, Int.reduceAdd, Int.reduceSub, Int.reduceMul, Int.reduceNeg, reduceCtorEq, Option.bind_some, Option.map_some, List.length_cons, List.length_nil, vcM, List.getElem?_toArray, List.getElem?_cons_zero, List.getElem?_cons_succ, hwi])
        (refine W_at c39_ok ?_; refine ⟨_, rfl, ?_⟩; simp (disch := first | omega | assumption | rfl | (simp only [vcS] <;> omega) | fail) only [↓ptV_l, ↓vcA, vcB, ↓vcD, vcE, ↓reduceIte, Nat.reduceEqDiff, Nat.reduceAdd, Nat.reduceMul, Nat.reduceLeDiff, Int.reduceLE, Int.reduceLT, Int.reduceEq, Int.reduceToNat, Int.reduceAdd, Int.reduceSub, Int.reduceMul, Int.reduceNeg, reduceCtorEq, Option.bind_some, Option.map_some, List.length_cons, List.length_nil, vcM, List.getElem?_toArray, List.getElem?_cons_zero, List.getElem?_cons_succ])
        refine ih (i + 1) wj.drew (by omega) hE.drew ?_
        rw [List.take_add_one, List.take_add_one, ht, List.getElem?_eq_getElem hip, List.getElem?_eq_getElem hiq, he]
      · have hd : decide (xs = ys) = false := decide_eq_false fun e => he (by subst e; rfl)
        rw [show decide (xs[i] = ys[i]) = false from decide_eq_false he]
        first | (simp (disch := first | omega | assumption | rfl | (simp only [vcS] <;> omega) | fail) only [↓ptV_l, ↓vcA, vcB, ↓vcD, vcE, ↓reduceIte, Nat.reduceEqDiff, Nat.reduceAdd, Nat.reduceMul, Nat.reduceLeDiff, Int.reduceLE, Int.reduceLT, Int.reduceEq, Int.reduceToNat, Int.reduceAdd, Int.reduceSub, Int.reduceMul, Int.reduceNeg, reduceCtorEq, Option.bind_some, Option.map_some, List.length_cons, List.length_nil, vcM, List.getElem?_toArray, List.getElem?_cons_zero, List.getElem?_cons_succ]) | skip
        (refine W_at c39_ok ?_; refine ⟨_, rfl, ?_⟩; simp (disch := first | omega | assumption | rfl | (simp only [vcS] <;> omega) | fail) only [↓ptV_l, ↓vcA, vcB, ↓vcD, vcE, ↓reduceIte, Nat.reduceEqDiff, Nat.reduceAdd, Nat.reduceMul, Nat.reduceLeDiff, Int.reduceLE, Int.reduceLT, Int.reduceEq, Int.reduceToNat, Int.reduceAdd, Int.reduceSub, Int.reduceMul, Int.reduceNeg, reduceCtorEq, Option.bind_some, Option.map_some, List.length_cons, List.length_nil, vcM, List.getElem?_toArray, List.getElem?_cons_zero, List.getElem?_cons_succ])
        (refine W_at c39_ok ?_; refine ⟨_, rfl, ?_⟩; simp (disch := first | omega | assumption | rfl | (simp only [vcS] <;> omega) | fail) only [↓ptV_l, ↓vcA, vcB, ↓vcD, vcE, ↓reduceIte, Nat.reduceEqDiff, Nat.reduceAdd, Nat.reduceMul, Nat.reduceLeDiff, Int.reduceLE, Int.reduceLT, Int.reduceEq, Int.reduceToNat, Int.reduceAdd, Int.reduceSub, Int.reduceMul, Int.reduceNeg, reduceCtorEq, Option.bind_some, Option.map_some, List.length_cons, List.length_nil, vcM, List.getElem?_toArray, List.getElem?_cons_zero, List.getElem?_cons_succ])
        (refine W_at c39_ok ?_; refine ⟨_, rfl, ?_⟩; simp (disch := first | omega | assumption | rfl | (simp only [vcS] <;> omega) | fail) only [↓ptV_l, ↓vcA, vcB, ↓vcD, vcE, ↓reduceIte, Nat.reduceEqDiff, Nat.reduceAdd, Nat.reduceMul, Nat.reduceLeDiff, Int.reduceLE, Int.reduceLT, Int.reduceEq, Int.reduceToNat, Int.reduceAdd, Int.reduceSub, Int.reduceMul, Int.reduceNeg, reduceCtorEq, Option.bind_some, Option.map_some, List.length_cons, List.length_nil, vcM, List.getElem?_toArray, List.getElem?_cons_zero, List.getElem?_cons_succ, Ret_returned])
        exact ⟨by rw [hd], hE.drew⟩
  exact L xs.length 0 w (by omega) (Keep.refl _ w) rfl
theorem told_ok (w : World) (jp p : Nat) (sv rv : Value) (J : JS) (h : JAt w jp p sv rv J) (hs : J.state.length ≤ 100000000) (hl : J.recs.length ≤ 10000000) (hb : ∀ b ∈ J.recs, b.length ≤ 100000000) :
    Calls Try.prog 18 #[.pointer (some ⟨jp, 0, none⟩)] w (Ret fun u w' => ∃ s r, u = .agg #[s, r] ∧ TAt (fun g => w.heap.size ≤ g) w' s r J.state J.recs ∧ Ext w w') := by
  refine calls_of_cfg c18_ok (Nat.le_of_ble_eq_true rfl) ?_
  simp only [argE_nil, argE_cons, Nat.reduceAdd, Nat.zero_add]
  (refine W_at c18_ok ?_; refine ⟨_, rfl, ?_⟩; simp (disch := first | omega | assumption | rfl | (simp only [vcS] <;> omega) | fail) only [↓ptV_l, ↓vcA, vcB, ↓vcD, vcE, ↓reduceIte, Nat.reduceEqDiff, Nat.reduceAdd, Nat.reduceMul, Nat.reduceLeDiff, Int.reduceLE, Int.reduceLT, Int.reduceEq, Int.reduceToNat, Int.reduceAdd, Int.reduceSub, Int.reduceMul, Int.reduceNeg, reduceCtorEq, Option.bind_some, Option.map_some, List.length_cons, List.length_nil, vcM, List.getElem?_toArray, List.getElem?_cons_zero, List.getElem?_cons_succ])
  have hE0 : Ext w (w.alloc (.cells (zc [(2, .slice none 0 0)]) 33)) := (Keep.refl _ w).alloc _
  have hc0 : (w.alloc (.cells (zc [(2, .slice none 0 0)]) 33)).heap[w.heap.size]? = some (.cells #[.slice none 0 0, .slice none 0 0] 33 (0, 0)) := heap_new _ _ _ rfl
  generalize World.alloc _ _ = w1 at hE0 hc0 ⊢
  generalize hbp : w.heap.size = bp at hc0 ⊢
  have hbp1 : bp ≤ w1.heap.size := by rw [← hbp]; exact hE0.size
  (refine W_at c18_ok ?_; refine ⟨_, rfl, ?_⟩; simp (disch := first | omega | assumption | rfl | (simp only [vcS] <;> omega) | fail) only [↓ptV_l, ↓vcA, vcB, ↓vcD, vcE, ↓reduceIte, Nat.reduceEqDiff, Nat.reduceAdd, Nat.reduceMul, Nat.reduceLeDiff, Int.reduceLE, Int.reduceLT, Int.reduceEq, Int.reduceToNat, Int.reduceAdd, Int.reduceSub, Int.reduceMul, Int.reduceNeg, reduceCtorEq, Option.bind_some, Option.map_some, List.length_cons, List.length_nil, vcM, List.getElem?_toArray, List.getElem?_cons_zero, List.getElem?_cons_succ])
  refine callV_ret (State_ok w1 jp p sv rv J (h.ext hE0) (by omega)) ?_
  intro s w2 hN
  have hs1 := hN.own.rd.one
  have hE2 := hE0.ext hN.ext
  first | (simp (disch := first | omega | assumption | rfl | (simp only [vcS] <;> omega) | fail) only [↓ptV_l, ↓vcA, vcB, ↓vcD, vcE, ↓reduceIte, Nat.reduceEqDiff, Nat.reduceAdd, Nat.reduceMul, Nat.reduceLeDiff, Int.reduceLE, Int.reduceLT, Int.reduceEq, Int.reduceToNat, Int.reduceAdd, Int.reduceSub, Int.reduceMul, Int.reduceNeg, reduceCtorEq, Option.bind_some, Option.map_some, List.length_cons, List.length_nil, vcM, List.getElem?_toArray, List.getElem?_cons_zero, List.getElem?_cons_succ]) | skip
  refine callV_ret (Records_ok w2 jp p sv rv J (h.ext hE2) hl hb) ?_
  rintro r w3 ⟨hR, hE3⟩
  have hr1 := hR.rows.one
  have hc3 := (hN.ext.ext hE3).at hc0 (fun h => h)
  have hsc : s.cells = #[s] := by obtain ⟨q', c', e, _⟩ := hN.own.rd.is; rw [e]; rfl
  have hrc : r.cells = #[r] := by obtain ⟨vs, h1, _⟩ := hR; obtain ⟨q', c', e, _⟩ := h1.is; rw [e]; rfl
  have s1 : (#[s] : Array Value).size = 1 := rfl
  have r1 : (#[r] : Array Value).size = 1 := rfl
  have e2 : (#[s] ++ #[r] : Array Value) = #[s, r] := rfl
  simp (disch := first | omega | assumption | rfl | (simp only [vcS] <;> omega) | fail) only [↓ptV_l, ↓vcA, vcB, ↓vcD, vcE, ↓reduceIte, Nat.reduceEqDiff, Nat.reduceAdd, Nat.reduceMul, Nat.reduceLeDiff, Int.reduceLE, Int.reduceLT, Int.reduceEq, Int.reduceToNat, Int.reduceAdd, Int.reduceSub, Int.reduceMul, Int.reduceNeg, reduceCtorEq, Option.bind_some, Option.map_some, List.length_cons, List.length_nil, vcM, List.getElem?_toArray, List.getElem?_cons_zero, List.getElem?_cons_succ, hsc, hrc, s1, r1, e2]
  have k3 : Keep (fun g => g = bp) w3 (w3.putN bp 0 #[s, r]) := (Keep.refl _ w3).putN _ fun _ => rfl
  have hc4 : (w3.putN bp 0 #[s, r]).heap[bp]? = some (.cells #[s, r] 33 (0, 0)) := by
    rw [heap_putN_eq hc3, splice_all (by simp)]
  refine ⟨⟨hs1, hr1⟩, by rw [hc3]; simp [okO], ?_⟩
  generalize World.putN _ _ _ _ = w4 at k3 hc4 ⊢
  (refine W_at c18_ok ?_; refine ⟨_, rfl, ?_⟩; simp (disch := first | omega | assumption | rfl | (simp only [vcS] <;> omega) | fail) only [↓ptV_l, ↓vcA, vcB, ↓vcD, vcE, ↓reduceIte, Nat.reduceEqDiff, Nat.reduceAdd, Nat.reduceMul, Nat.reduceLeDiff, Int.reduceLE, Int.reduceLT, Int.reduceEq, Int.reduceToNat, Int.reduceAdd, Int.reduceSub, Int.reduceMul, Int.reduceNeg, reduceCtorEq, Option.bind_some, Option.map_some, List.length_cons, List.length_nil, vcM, List.getElem?_toArray, List.getElem?_cons_zero, List.getElem?_cons_succ, Ret_returned, hc4])
  have nb : ∀ g c t, w3.heap[g]? = some (.cells c t (0, 0)) → t ≠ 33 → ¬ g = bp := fun g c t hg ht e => by rw [e, hc3] at hg; cases hg; exact ht rfl
  obtain ⟨vs, h1, h2, h3⟩ := hR
  have hst := (ByT.own (hN.own.ext hE3)).keep k3 fun g c hg => nb g c _ hg (by decide)
  refine ⟨s, r, rfl, ⟨hst, fun g hg => Nat.le_trans hbp1 (hN.new g hg), fun g hg => Nat.le_trans hbp1 (Nat.le_trans hN.ext.size (h1.blk hg).1), vs, (h1.base (Nat.zero_le _)).keep k3 fun g hg => (h1.blk hg).2.elim fun c hc => nb g c _ hc (by decide), forall2_keep h2 fun v b hb => hb.keep k3 fun g c hg => nb g c _ hg (by decide), fun v hv g hg => ?_⟩, (hE2.ext hE3).trans k3 fun i hi e => by omega⟩
  obtain ⟨b, _, h4⟩ := h3 v hv
  exact Nat.le_trans hbp1 (Nat.le_trans hN.ext.size (h4 g hg))
/-- What does not read the cells: bytes of one's own, whatever they are. -/
def OB (m : Nat) (w : World) (v : Value) : Prop := ∃ b, Own1 w v b ∧ ∀ g, blk v g → m ≤ g
theorem OB.poke {m : Nat} {w : World} {v : Value} (h : OB m w v) (g i : Nat) (x : Int) : OB m (w.setCell ⟨g, i, none⟩ (.int .u8 x)) v := by
  obtain ⟨b, h1, h2⟩ := h
  by_cases hi : i < b.length
  · by_cases hg : blk v g
    · obtain ⟨g', c, e, _, h4⟩ := h1.set hi x
      have : g' = g := by rw [e] at hg; exact Option.some.inj hg
      subst this
      exact ⟨_, h4, h2⟩
    · exact ⟨b, h1.keep ((Keep.refl _ w).setCell (S := fun k => k = g) _ fun _ => rfl) fun k hk (e : k = g) => hg (e ▸ hk), h2⟩
  · exact ⟨b, h1.out (by omega) _, h2⟩
theorem rsame_ok (w : World) (B1 B2 : Nat → Prop) (s1 r1 s2 r2 : Value) (S1 S2 : List Int) (R1 R2 : List (List Int)) (h1 : TAt B1 w s1 r1 S1 R1) (h2 : TAt B2 w s2 r2 S2 R2) (b1 : byt S1) (b2 : byt S2) (c1 : ∀ p ∈ R1, byt p) (c2 : ∀ p ∈ R2, byt p) (hl : R1.length ≤ 100000000) :
    Calls Try.prog 17 #[.agg #[s1, r1], .agg #[s2, r2]] w (Ret fun u w' => u = .bool (decide (S1 = S2 ∧ R1 = R2)) ∧ Ext w w') := by
  refine calls_of_cfg c17_ok (Nat.le_of_ble_eq_true rfl) ?_
  simp only [argE_nil, argE_cons, Nat.reduceAdd, Nat.zero_add]
  (refine W_at c17_ok ?_; refine ⟨_, rfl, ?_⟩; simp (disch := first | omega | assumption | rfl | (simp only [vcS] <;> omega) | fail) only [↓ptV_l, ↓vcA, vcB, ↓vcD, vcE, ↓reduceIte, Nat.reduceEqDiff, Nat.reduceAdd, Nat.reduceMul, Nat.reduceLeDiff, Int.reduceLE, Int.reduceLT, Int.reduceEq, Int.reduceToNat, Int.reduceAdd, Int.reduceSub, Int.reduceMul, Int.reduceNeg, reduceCtorEq, Option.bind_some, Option.map_some, List.length_cons, List.length_nil, vcM, List.getElem?_toArray, List.getElem?_cons_zero, List.getElem?_cons_succ])
  have hE : Ext w ((w.alloc (.cells #[s1, r1] 33)).alloc (.cells #[s2, r2] 33)) := ((Keep.refl _ w).alloc _).alloc _
  have hp1 : ((w.alloc (.cells #[s1, r1] 33)).alloc (.cells #[s2, r2] 33)).heap[w.heap.size]? = some (.cells #[s1, r1] 33 (0, 0)) := by
    rw [heap_old _ _ _ (by simp only [size_alloc]; omega)]
    exact heap_new _ _ _ rfl
  have hp2 : ((w.alloc (.cells #[s1, r1] 33)).alloc (.cells #[s2, r2] 33)).heap[w.heap.size + 1]? = some (.cells #[s2, r2] 33 (0, 0)) := heap_new _ _ _ (by simp only [size_alloc])
  generalize World.alloc (World.alloc _ _) _ = w1 at hE hp1 hp2 ⊢
  (refine W_at c17_ok ?_; refine ⟨_, rfl, ?_⟩; simp (disch := first | omega | assumption | rfl | (simp only [vcS] <;> omega) | fail) only [↓ptV_l, ↓vcA, vcB, ↓vcD, vcE, ↓reduceIte, Nat.reduceEqDiff, Nat.reduceAdd, Nat.reduceMul, Nat.reduceLeDiff, Int.reduceLE, Int.reduceLT, Int.reduceEq, Int.reduceToNat, Int.reduceAdd, Int.reduceSub, Int.reduceMul, Int.reduceNeg, reduceCtorEq, Option.bind_some, Option.map_some, List.length_cons, List.length_nil, vcM, List.getElem?_toArray, List.getElem?_cons_zero, List.getElem?_cons_succ, hp1, hp2])
  refine callV_ret (equal_ok w1 s1 s2 S1 S2 (h1.st.1.ext hE) (h2.st.1.ext hE) b1 b2) ?_
  rintro _ w2 ⟨rfl, hw⟩
  obtain rfl : w1 = w2 := hw.symm
  by_cases he : S1 = S2
  · rw [show decide (S1 = S2) = true from decide_eq_true he]
    simp (disch := first | omega | assumption | rfl | (simp only [vcS] <;> omega) | fail) only [↓ptV_l, ↓vcA, vcB, ↓vcD, vcE, ↓reduceIte, Nat.reduceEqDiff, Nat.reduceAdd, Nat.reduceMul, Nat.reduceLeDiff, Int.reduceLE, Int.reduceLT, Int.reduceEq, Int.reduceToNat, Int.reduceAdd, Int.reduceSub, Int.reduceMul, Int.reduceNeg, reduceCtorEq, Option.bind_some, Option.map_some, List.length_cons, List.length_nil, vcM, List.getElem?_toArray, List.getElem?_cons_zero, List.getElem?_cons_succ, hp1, hp2]
    refine callV_ret (same_ok w1 r1 r2 R1 R2 (h1.recs.ext hE) (h2.recs.ext hE) c1 c2 hl) ?_
    rintro _ w2 ⟨rfl, hE2⟩
    first | (simp (disch := first | omega | assumption | rfl | (simp only [vcS] <;> omega) | fail) only [↓ptV_l, ↓vcA, vcB, ↓vcD, vcE, ↓reduceIte, Nat.reduceEqDiff, Nat.reduceAdd, Nat.reduceMul, Nat.reduceLeDiff, Int.reduceLE, Int.reduceLT, Int.reduceEq, Int.reduceToNat, Int.reduceAdd, Int.reduceSub, Int.reduceMul, Int.reduceNeg, reduceCtorEq, Option.bind_some, Option.map_some, List.length_cons, List.length_nil, vcM, List.getElem?_toArray, List.getElem?_cons_zero, List.getElem?_cons_succ]) | skip
    (refine W_at c17_ok ?_; refine ⟨_, rfl, ?_⟩; simp (disch := first | omega | assumption | rfl | (simp only [vcS] <;> omega) | fail) only [↓ptV_l, ↓vcA, vcB, ↓vcD, vcE, ↓reduceIte, Nat.reduceEqDiff, Nat.reduceAdd, Nat.reduceMul, Nat.reduceLeDiff, Int.reduceLE, Int.reduceLT, Int.reduceEq, Int.reduceToNat, Int.reduceAdd, Int.reduceSub, Int.reduceMul, Int.reduceNeg, reduceCtorEq, Option.bind_some, Option.map_some, List.length_cons, List.length_nil, vcM, List.getElem?_toArray, List.getElem?_cons_zero, List.getElem?_cons_succ, Ret_returned])
    refine ⟨?_, hE.ext hE2⟩
    simp [he]
  · rw [show decide (S1 = S2) = false from decide_eq_false he]
    simp (disch := first | omega | assumption | rfl | (simp only [vcS] <;> omega) | fail) only [↓ptV_l, ↓vcA, vcB, ↓vcD, vcE, ↓reduceIte, Nat.reduceEqDiff, Nat.reduceAdd, Nat.reduceMul, Nat.reduceLeDiff, Int.reduceLE, Int.reduceLT, Int.reduceEq, Int.reduceToNat, Int.reduceAdd, Int.reduceSub, Int.reduceMul, Int.reduceNeg, reduceCtorEq, Option.bind_some, Option.map_some, List.length_cons, List.length_nil, vcM, List.getElem?_toArray, List.getElem?_cons_zero, List.getElem?_cons_succ]
    (refine W_at c17_ok ?_; refine ⟨_, rfl, ?_⟩; simp (disch := first | omega | assumption | rfl | (simp only [vcS] <;> omega) | fail) only [↓ptV_l, ↓vcA, vcB, ↓vcD, vcE, ↓reduceIte, Nat.reduceEqDiff, Nat.reduceAdd, Nat.reduceMul, Nat.reduceLeDiff, Int.reduceLE, Int.reduceLT, Int.reduceEq, Int.reduceToNat, Int.reduceAdd, Int.reduceSub, Int.reduceMul, Int.reduceNeg, reduceCtorEq, Option.bind_some, Option.map_some, List.length_cons, List.length_nil, vcM, List.getElem?_toArray, List.getElem?_cons_zero, List.getElem?_cons_succ, Ret_returned])
    refine ⟨?_, hE⟩
    simp [he]
theorem rcompact_ok (w : World) (x : Value) (b : List Int) (hx : Rd w x b) (hl : b.length ≤ 100000000) :
    Calls Try.prog 15 #[x] w (Ret fun u w' => ∃ s r, u = .agg #[s, r] ∧ TAt (fun g => w.heap.size ≤ g) w' s r b [] ∧ Ext w w') := by
  refine calls_of_cfg c15_ok (Nat.le_of_ble_eq_true rfl) ?_
  simp only [argE_nil, argE_cons, Nat.reduceAdd, Nat.zero_add]
  (refine W_at c15_ok ?_; refine ⟨_, rfl, ?_⟩; simp (disch := first | omega | assumption | rfl | (simp only [vcS] <;> omega) | fail) only [↓ptV_l, ↓vcA, vcB, ↓vcD, vcE, ↓reduceIte, Nat.reduceEqDiff, Nat.reduceAdd, Nat.reduceMul, Nat.reduceLeDiff, Int.reduceLE, Int.reduceLT, Int.reduceEq, Int.reduceToNat, Int.reduceAdd, Int.reduceSub, Int.reduceMul, Int.reduceNeg, reduceCtorEq, Option.bind_some, Option.map_some, List.length_cons, List.length_nil, vcM, List.getElem?_toArray, List.getElem?_cons_zero, List.getElem?_cons_succ])
  have hE0 : Ext w (w.alloc (.cells (zc [(2, .slice none 0 0)]) 33)) := (Keep.refl _ w).alloc _
  have hc0 : (w.alloc (.cells (zc [(2, .slice none 0 0)]) 33)).heap[w.heap.size]? = some (.cells #[.slice none 0 0, .slice none 0 0] 33 (0, 0)) := heap_new _ _ _ rfl
  generalize World.alloc _ _ = w1 at hE0 hc0 ⊢
  generalize hbp : w.heap.size = bp at hc0 ⊢
  have hbp1 : bp ≤ w1.heap.size := by rw [← hbp]; exact hE0.size
  (refine W_at c15_ok ?_; refine ⟨_, rfl, ?_⟩; simp (disch := first | omega | assumption | rfl | (simp only [vcS] <;> omega) | fail) only [↓ptV_l, ↓vcA, vcB, ↓vcD, vcE, ↓reduceIte, Nat.reduceEqDiff, Nat.reduceAdd, Nat.reduceMul, Nat.reduceLeDiff, Int.reduceLE, Int.reduceLT, Int.reduceEq, Int.reduceToNat, Int.reduceAdd, Int.reduceSub, Int.reduceMul, Int.reduceNeg, reduceCtorEq, Option.bind_some, Option.map_some, List.length_cons, List.length_nil, vcM, List.getElem?_toArray, List.getElem?_cons_zero, List.getElem?_cons_succ])
  refine callV_ret (copy_ok w1 x b (hx.ext hE0) hl) ?_
  intro s w2 hN
  have hs1 := hN.own.rd.one
  have hE2 := hE0.ext hN.ext
  have hc3 := hN.ext.at hc0 (fun h => h)
  have hsc : s.cells = #[s] := by obtain ⟨q', c', e, _⟩ := hN.own.rd.is; rw [e]; rfl
  have s1 : (#[s] : Array Value).size = 1 := rfl
  have e2 : (#[s] ++ zc [(1, .slice none 0 0)] : Array Value) = #[s, .slice none 0 0] := rfl
  simp (disch := first | omega | assumption | rfl | (simp only [vcS] <;> omega) | fail) only [↓ptV_l, ↓vcA, vcB, ↓vcD, vcE, ↓reduceIte, Nat.reduceEqDiff, Nat.reduceAdd, Nat.reduceMul, Nat.reduceLeDiff, Int.reduceLE, Int.reduceLT, Int.reduceEq, Int.reduceToNat, Int.reduceAdd, Int.reduceSub, Int.reduceMul, Int.reduceNeg, reduceCtorEq, Option.bind_some, Option.map_some, List.length_cons, List.length_nil, vcM, List.getElem?_toArray, List.getElem?_cons_zero, List.getElem?_cons_succ, hsc, s1, e2]
  have k3 : Keep (fun g => g = bp) w2 (w2.putN bp 0 #[s, .slice none 0 0]) := (Keep.refl _ w2).putN _ fun _ => rfl
  have hc4 : (w2.putN bp 0 #[s, .slice none 0 0]).heap[bp]? = some (.cells #[s, .slice none 0 0] 33 (0, 0)) := by
    rw [heap_putN_eq hc3, splice_all (by simp)]
  refine ⟨hs1, by rw [hc3]; simp [okO], ?_⟩
  generalize World.putN _ _ _ _ = w4 at k3 hc4 ⊢
  (refine W_at c15_ok ?_; refine ⟨_, rfl, ?_⟩; simp (disch := first | omega | assumption | rfl | (simp only [vcS] <;> omega) | fail) only [↓ptV_l, ↓vcA, vcB, ↓vcD, vcE, ↓reduceIte, Nat.reduceEqDiff, Nat.reduceAdd, Nat.reduceMul, Nat.reduceLeDiff, Int.reduceLE, Int.reduceLT, Int.reduceEq, Int.reduceToNat, Int.reduceAdd, Int.reduceSub, Int.reduceMul, Int.reduceNeg, reduceCtorEq, Option.bind_some, Option.map_some, List.length_cons, List.length_nil, vcM, List.getElem?_toArray, List.getElem?_cons_zero, List.getElem?_cons_succ, Ret_returned, hc4])
  have nb : ∀ g c t, w2.heap[g]? = some (.cells c t (0, 0)) → t ≠ 33 → ¬ g = bp := fun g c t hg ht e => by rw [e, hc3] at hg; cases hg; exact ht rfl
  have hst := (ByT.own hN.own).keep k3 fun g c hg => nb g c _ hg (by decide)
  exact ⟨s, _, rfl, ⟨hst, fun g hg => Nat.le_trans hbp1 (hN.new g hg), fun g hg => (by cases hg), [], OwnO.nil _ _ _ _, .nil, fun v hv => by cases hv⟩, hE2.trans k3 fun i hi e => by omega⟩
theorem rappend_ok (w : World) (B : Nat → Prop) (sv rv x : Value) (S b : List Int) (R : List (List Int)) (h : TAt B w sv rv S R) (hx : Rd w x b) (hl : b.length ≤ 100000000) (hrl : R.length ≤ 1000000) :
    Calls Try.prog 13 #[.agg #[sv, rv], x] w (Ret fun u w' => ∃ r, u = .agg #[sv, r] ∧ TAt (fun g => B g ∨ w.heap.size ≤ g) w' sv r S (R ++ [b]) ∧ (∀ g, blk r g → w.heap.size ≤ g) ∧ Ext w w') := by
  refine calls_of_cfg c13_ok (Nat.le_of_ble_eq_true rfl) ?_
  simp only [argE_nil, argE_cons, Nat.reduceAdd, Nat.zero_add]
  (refine W_at c13_ok ?_; refine ⟨_, rfl, ?_⟩; simp (disch := first | omega | assumption | rfl | (simp only [vcS] <;> omega) | fail) only [↓ptV_l, ↓vcA, vcB, ↓vcD, vcE, ↓reduceIte, Nat.reduceEqDiff, Nat.reduceAdd, Nat.reduceMul, Nat.reduceLeDiff, Int.reduceLE, Int.reduceLT, Int.reduceEq, Int.reduceToNat, Int.reduceAdd, Int.reduceSub, Int.reduceMul, Int.reduceNeg, reduceCtorEq, Option.bind_some, Option.map_some, List.length_cons, List.length_nil, vcM, List.getElem?_toArray, List.getElem?_cons_zero, List.getElem?_cons_succ])
  have hE : Ext w ((w.alloc (.cells #[sv, rv] 33)).alloc (.cells (zc [(2, .slice none 0 0)]) 33)) := ((Keep.refl _ w).alloc _).alloc _
  have hp1 : ((w.alloc (.cells #[sv, rv] 33)).alloc (.cells (zc [(2, .slice none 0 0)]) 33)).heap[w.heap.size]? = some (.cells #[sv, rv] 33 (0, 0)) := by
    rw [heap_old _ _ _ (by simp only [size_alloc]; omega)]
    exact heap_new _ _ _ rfl
  have hp2 : ((w.alloc (.cells #[sv, rv] 33)).alloc (.cells (zc [(2, .slice none 0 0)]) 33)).heap[w.heap.size + 1]? = some (.cells #[.slice none 0 0, .slice none 0 0] 33 (0, 0)) := heap_new _ _ _ (by simp only [size_alloc])
  generalize World.alloc (World.alloc _ _) _ = w1 at hE hp1 hp2 ⊢
  obtain ⟨vs, g1, g2, g3⟩ := h.rows
  have hvl := forall2_len g2
  have hml : maxLen = 9223372036854775807 := rfl
  have hEa : Ext w (w1.alloc (.cells #[] 30)) := hE.alloc _
  have hp1a := ((Keep.refl _ w1).alloc (.cells #[] 30) : Ext w1 _).at hp1 (fun h => h)
  have hp2a := ((Keep.refl _ w1).alloc (.cells #[] 30) : Ext w1 _).at hp2 (fun h => h)
  (refine W_at c13_ok ?_; refine ⟨_, rfl, ?_⟩; simp (disch := first | omega | assumption | rfl | (simp only [vcS] <;> omega) | fail) only [↓ptV_l, ↓vcA, vcB, ↓vcD, vcE, ↓reduceIte, Nat.reduceEqDiff, Nat.reduceAdd, Nat.reduceMul, Nat.reduceLeDiff, Int.reduceLE, Int.reduceLT, Int.reduceEq, Int.reduceToNat, Int.reduceAdd, Int.reduceSub, Int.reduceMul, Int.reduceNeg, reduceCtorEq, Option.bind_some, Option.map_some, List.length_cons, List.length_nil, vcM, List.getElem?_toArray, List.getElem?_cons_zero, List.getElem?_cons_succ, hp1])
  have hO : OwnO (w1.alloc (.cells #[] 30)) w.heap.size 30 1 (.slice (some ⟨w1.heap.size, 0, none⟩) 0 0) [] :=
    ⟨fun k h => (by cases h), .inr ⟨w1.heap.size, 0, 0, #[], rfl, hE.size, heap_new _ _ _ rfl, Nat.le_refl _, by omega, by simp, rfl⟩⟩
  have hsz1 := hE.size
  generalize hwa : w1.alloc (.cells #[] 30) = wa at hEa hp1a hp2a hO ⊢
  have hszl : w1.heap.size = wa.heap.size - 1 := by rw [← hwa, size_alloc]; omega
  have g1a := g1.ext hEa
  simp (disch := first | omega | assumption | rfl | (simp only [vcS] <;> omega) | fail) only [↓ptV_l, ↓vcA, vcB, ↓vcD, vcE, ↓reduceIte, Nat.reduceEqDiff, Nat.reduceAdd, Nat.reduceMul, Nat.reduceLeDiff, Int.reduceLE, Int.reduceLT, Int.reduceEq, Int.reduceToNat, Int.reduceAdd, Int.reduceSub, Int.reduceMul, Int.reduceNeg, reduceCtorEq, Option.bind_some, Option.map_some, List.length_cons, List.length_nil, vcM, List.getElem?_toArray, List.getElem?_cons_zero, List.getElem?_cons_succ, hp1a]
  obtain ⟨q, c, erv, hcap⟩ := g1.is
  rw [List.length_map] at erv
  have hone : rv.oneCell' = true := g1.one
  rw [erv]
  refine appO2 (ids2 := vs.map fun v => #[v]) hO (by rw [← erv]; exact g1a.rd) (by rw [List.length_map]) (fun k hk => ?_) (fun k hk => ?_) (by simp; omega) (by simp; omega) rfl (by omega) (by decide) fun v1 w2 hO2 hk2 hb2 => ?_
  · obtain ⟨v, _, rfl⟩ := List.mem_map.1 hk; rfl
  · obtain ⟨v, hv, rfl⟩ := List.mem_map.1 hk
    obtain ⟨b', hb'⟩ := g2.mem v hv
    rw [flat_1]
    exact hb'.1.one
  rw [List.nil_append] at hO2
  have hE2 : Ext w w2 := hEa.trans hk2 fun i hi hb => by
    have : w1.heap.size = i := Option.some.inj hb
    omega
  have nw : ∀ {g c t}, wa.heap[g]? = some (.cells c t (0, 0)) → t ≠ 30 → ¬ blk (.slice (some ⟨w1.heap.size, 0, none⟩) 0 0) g := fun {g c t} hg ht hb => by
    obtain ⟨c', hc⟩ := (hO.blk hb).2
    rw [hg] at hc; cases hc; exact ht rfl
  have hp12 := hk2.at hp1a (nw hp1a (by decide))
  have hp22 := hk2.at hp2a (nw hp2a (by decide))
  refine callV_ret (copy_ok w2 x b (hx.ext hE2) hl) ?_
  intro vc w3 hN
  have hvc := hN.own.rd.one
  have hsc : vc.cells = #[vc] := by obtain ⟨q', c', e, _⟩ := hN.own.rd.is; rw [e]; rfl
  have hE3 := hE2.ext hN.ext
  have s1 : (#[vc] : Array Value).size = 1 := rfl
  have e2 : ((#[vc] : Array Value).toList ++ []).toArray = #[vc] := rfl
  have hp13 := hN.ext.at hp12 (fun h => h)
  have hp23 := hN.ext.at hp22 (fun h => h)
  simp (disch := first | omega | assumption | rfl | (simp only [vcS] <;> omega) | fail) only [↓ptV_l, ↓vcA, vcB, ↓vcD, vcE, ↓reduceIte, Nat.reduceEqDiff, Nat.reduceAdd, Nat.reduceMul, Nat.reduceLeDiff, Int.reduceLE, Int.reduceLT, Int.reduceEq, Int.reduceToNat, Int.reduceAdd, Int.reduceSub, Int.reduceMul, Int.reduceNeg, reduceCtorEq, Option.bind_some, Option.map_some, List.length_cons, List.length_nil, vcM, List.getElem?_toArray, List.getElem?_cons_zero, List.getElem?_cons_succ, hsc, s1, e2]
  refine appRow (hO2.ext hN.ext) hvc (by omega) hE3.size fun v2 w4 hO4 hk4 hb4 => ?_
  have nv1 : ∀ {g c t}, w3.heap[g]? = some (.cells c t (0, 0)) → t ≠ 30 → ¬ blk v1 g := fun {g c t} hg ht hb => by
    obtain ⟨c', hc⟩ := ((hO2.ext hN.ext).blk hb).2
    rw [hg] at hc; cases hc; exact ht rfl
  have hp14 := hk4.at hp13 (nv1 hp13 (by decide))
  have hp24 := hk4.at hp23 (nv1 hp23 (by decide))
  have hE4 : Ext w w4 := hE3.trans hk4 fun i hi hb => by
    have := (hO2.blk hb).1; omega
  refine ⟨hO4.one, wr1_of hp14 (by simp), ?_⟩
  have k5 : Keep (fun g => g = w.heap.size) w4 (w4.setCell ⟨w.heap.size, 1, none⟩ v2) := (Keep.refl _ w4).setCell _ fun _ => rfl
  have hp15 : (w4.setCell ⟨w.heap.size, 1, none⟩ v2).heap[w.heap.size]? = some (.cells #[sv, v2] 33 (0, 0)) := by rw [heap_setCell_eq hp14]; rfl
  have hp25 := k5.at hp24 (by omega)
  generalize World.setCell _ _ _ = w5 at k5 hp15 hp25 ⊢
  have hok : okO (some (Obj.cells #[Value.slice none 0 0, .slice none 0 0] 33 (0, 0))) 0 2 = True := by simp [okO]
  have hx2 : (#[sv, v2] : Array Value).extract 0 (0 + 2) = #[sv, v2] := rfl
  have s2 : (#[sv, v2] : Array Value).size = 2 := rfl
  have hsv1 := h.st.1.one
  (refine W_at c13_ok ?_; refine ⟨_, rfl, ?_⟩; simp (disch := first | omega | assumption | rfl | (simp only [vcS] <;> omega) | fail) only [↓ptV_l, ↓vcA, vcB, ↓vcD, vcE, ↓reduceIte, Nat.reduceEqDiff, Nat.reduceAdd, Nat.reduceMul, Nat.reduceLeDiff, Int.reduceLE, Int.reduceLT, Int.reduceEq, Int.reduceToNat, Int.reduceAdd, Int.reduceSub, Int.reduceMul, Int.reduceNeg, reduceCtorEq, Option.bind_some, Option.map_some, List.length_cons, List.length_nil, vcM, List.getElem?_toArray, List.getElem?_cons_zero, List.getElem?_cons_succ, hp15, hp25, hok, hx2, s2])
  have k6 : Keep (fun g => g = w.heap.size + 1) w5 (w5.putN (w.heap.size + 1) 0 #[sv, v2]) := (Keep.refl _ w5).putN _ fun _ => rfl
  have hc6 : (w5.putN (w.heap.size + 1) 0 #[sv, v2]).heap[w.heap.size + 1]? = some (.cells #[sv, v2] 33 (0, 0)) := by
    rw [heap_putN_eq hp25, splice_all (by simp)]
  refine ⟨⟨hsv1, hO4.one⟩, ?_⟩
  generalize World.putN _ _ _ _ = w6 at k6 hc6 ⊢
  (refine W_at c13_ok ?_; refine ⟨_, rfl, ?_⟩; simp (disch := first | omega | assumption | rfl | (simp only [vcS] <;> omega) | fail) only [↓ptV_l, ↓vcA, vcB, ↓vcD, vcE, ↓reduceIte, Nat.reduceEqDiff, Nat.reduceAdd, Nat.reduceMul, Nat.reduceLeDiff, Int.reduceLE, Int.reduceLT, Int.reduceEq, Int.reduceToNat, Int.reduceAdd, Int.reduceSub, Int.reduceMul, Int.reduceNeg, reduceCtorEq, Option.bind_some, Option.map_some, List.length_cons, List.length_nil, vcM, List.getElem?_toArray, List.getElem?_cons_zero, List.getElem?_cons_succ, Ret_returned, hc6])
  have n4 : ∀ {g c t}, w4.heap[g]? = some (.cells c t (0, 0)) → t ≠ 33 → ¬ g = w.heap.size := fun {g c t} hg ht e => by rw [e, hp14] at hg; cases hg; exact ht rfl
  have n5 : ∀ {g c t}, w5.heap[g]? = some (.cells c t (0, 0)) → t ≠ 33 → ¬ g = w.heap.size + 1 := fun {g c t} hg ht e => by rw [e, hp25] at hg; cases hg; exact ht rfl
  have hE5 : Ext w w5 := hE4.trans k5 fun i hi e => by omega
  have hE6 : Ext w w6 := hE5.trans k6 fun i hi e => by omega
  have hO5 := hO4.keep k5 fun g hg => (hO4.blk hg).2.elim fun c hc => n4 hc (by decide)
  have hO6 := hO5.keep k6 fun g hg => (hO5.blk hg).2.elim fun c hc => n5 hc (by decide)
  have hv4 := (ByT.own hN.own).keep hk4 fun g c hg => nv1 hg (by decide)
  have hv6 := (hv4.keep k5 fun g c hg => n4 hg (by decide)).keep k6 fun g c hg => n5 hg (by decide)
  refine ⟨v2, rfl, ⟨h.st.ext hE6, fun g hg => .inl (h.stB g hg), fun g hg => .inr (hO6.blk hg).1, vs ++ [vc], hO6.base (Nat.zero_le _), forall2_app (forall2_keep g2 fun v b hb => hb.ext hE6) hv6, fun v hv g hg => ?_⟩, fun g hg => (hO6.blk hg).1, hE6⟩
  rcases List.mem_append.1 hv with hv | hv
  · exact .inl (g3 v hv g hg)
  · rw [List.mem_singleton.1 hv] at hg
    exact .inr (Nat.le_trans hE2.size (hN.new g hg))
end Go.Proofs
