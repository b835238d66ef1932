/- Disks: what they are, and their small functions. -/
import Derived.Test.YtfackfekmadjbaaD1
set_option linter.unusedSimpArgs false
set_option linter.unusedVariables false
set_option linter.constructorNameAsVariable false
namespace Go.Proofs
open Go.Vc
set_option maxRecDepth 10000

abbrev Sec := List Int
abbrev Wr := Int × Sec
def zsec : Sec := List.replicate 64 0
def secOK (s : Sec) : Prop := s.length = 64 ∧ byt s
theorem zsec_ok : secOK zsec := ⟨by simp [zsec], fun z hz => by simp [zsec] at hz; omega⟩
def wcell (x : Wr) : Array Value := (.int .i64 x.1 :: bv x.2).toArray
/-- A disk: sectors, what isn't safe, whether it is dead, how many calls are left (-1: all). -/
structure DS where
  n : Nat
  safe : Int → Sec
  queue : List Wr
  dead : Bool
  left : Int
structure DS.Ok (d : DS) : Prop where
  n : d.n ≤ 65536
  safe : ∀ k, secOK (d.safe k)
  queue : ∀ x ∈ d.queue, secOK x.2 ∧ 0 ≤ x.1 ∧ x.1 < d.n
  len : d.queue.length ≤ 1000000
  left : -1 ≤ d.left ∧ d.left ≤ 9223372036854775807
/-- The program's. -/
structure DAt (w : World) (p r : Nat) (qv : Value) (d : DS) : Prop where
  obj : ∃ fuse armed, w.heap[p]? = some (.cells #[.int .i64 (d.n : Nat), .map (some r), qv, .int .i64 fuse, .bool armed, .bool d.dead] 58 (0, 0)) ∧
    (d.dead = false → armed = decide (0 ≤ d.left) ∧ (0 ≤ d.left → fuse = d.left)) ∧ -9223372036854775808 ≤ fuse ∧ fuse ≤ 9223372036854775807
  map : ∃ l, MapI w r l ∧ ∀ k, (getM k l = some (.agg (bv (d.safe k)).toArray)) ∨ (getM k l = none ∧ d.safe k = zsec)
  queue : OwnO w 0 77 65 qv (d.queue.map wcell)
def DB (p r : Nat) (qv : Value) (k : Nat) : Prop := k = p ∨ k = r ∨ blk qv k
theorem MapI.heap {w : World} {r : Nat} {l : List IE} (h : MapI w r l) : ∃ es c, w.heap[r]? = some (.map es c) := by
  obtain ⟨es, c, h, _⟩ := h; exact ⟨es, c, h⟩
theorem DAt.keep {S : Nat → Prop} {w w' : World} {p r : Nat} {qv : Value} {d : DS} (h : DAt w p r qv d) (k : Keep S w w') (hS : ∀ g, DB p r qv g → ¬ S g) : DAt w' p r qv d := by
  obtain ⟨⟨f, a, h1, h2⟩, ⟨l, h3, h4⟩, h5⟩ := h
  exact ⟨⟨f, a, k.at h1 (hS p (.inl rfl)), h2⟩, ⟨l, h3.keep k (hS r (.inr (.inl rfl))), h4⟩, h5.keep k fun g hg => hS g (.inr (.inr hg))⟩
theorem DAt.ext {w w' : World} {p r : Nat} {qv : Value} {d : DS} (h : DAt w p r qv d) (k : Ext w w') : DAt w' p r qv d := h.keep k fun _ _ h => h
theorem qlen (d : DS) : (d.queue.map wcell).length = d.queue.length := List.length_map _
/-- Are they told apart? -/
theorem DAt.ne {w : World} {p r : Nat} {qv : Value} {d : DS} (h : DAt w p r qv d) : p ≠ r ∧ ¬ blk qv p ∧ ¬ blk qv r := by
  obtain ⟨⟨f, a, h1, _⟩, ⟨l, h3, _⟩, h5⟩ := h
  obtain ⟨es, c, h3⟩ := h3.heap
  refine ⟨fun e => ?_, fun hb => ?_, fun hb => ?_⟩
  · subst e; rw [h1] at h3; cases h3
  · obtain ⟨_, c, e⟩ := h5.blk hb; rw [h1] at e; cases e
  · obtain ⟨_, c, e⟩ := h5.blk hb; rw [h3] at e; cases e
/-- What a block of a disk is. -/
theorem DAt.kind {w : World} {p r : Nat} {qv : Value} {d : DS} (h : DAt w p r qv d) {g : Nat} (hg : DB p r qv g) : (∃ es c, w.heap[g]? = some (.map es c)) ∨ ∃ c t, w.heap[g]? = some (.cells c t (0, 0)) ∧ (t = 58 ∨ t = 77) := by
  obtain ⟨⟨f, a, h1, _⟩, ⟨l, h3, _⟩, h5⟩ := h
  rcases hg with rfl | rfl | hg
  · exact .inr ⟨_, _, h1, .inl rfl⟩
  · exact .inl h3.heap
  · obtain ⟨_, c, e⟩ := h5.blk hg
    exact .inr ⟨_, _, e, .inr rfl⟩
theorem DAt.lt {w : World} {p r : Nat} {qv : Value} {d : DS} (h : DAt w p r qv d) {g : Nat} (hg : DB p r qv g) : g < w.heap.size := by
  rcases h.kind hg with ⟨es, c, e⟩ | ⟨c, t, e, _⟩ <;> exact (Array.getElem?_eq_some_iff.1 e).1
def thereB (n : Nat) (i : Int) : Bool := decide (0 ≤ i) && decide (i < (n : Nat))
theorem there_ok (w : World) (p r : Nat) (qv : Value) (d : DS) (i : Int) (h : DAt w p r qv d) :
    Calls Try.prog 43 #[.pointer (some ⟨p, 0, none⟩), .int .i64 i] w (Ret fun u w' => u = .bool (thereB d.n i) ∧ w' = w) := by
  refine calls_of_cfg c43_ok (Nat.le_of_ble_eq_true rfl) ?_
  simp only [argE_nil, argE_cons, Nat.reduceAdd, Nat.zero_add]
  obtain ⟨f, a, h1, _⟩ := h.obj
  unfold thereB
  (refine W_at c43_ok ?_; refine ⟨_, rfl, ?_⟩; simp (disch := first | omega | assumption | rfl | (simp only [vcS] <;> omega) | fail) only [↓ptV_l, ↓vcA, vcB, ↓vcD, vcE, ↓reduceIte, Nat.reduceEqDiff, Nat.reduceAdd, Nat.reduceMul, Nat.reduceLeDiff, Int.reduceLE, Int.reduceLT, Int.reduceEq, Int.reduceToNat, Int.reduceAdd, Int.reduceSub, Int.reduceMul, Int.reduceNeg, reduceCtorEq, Option.bind_some, Option.map_some, List.length_cons, List.length_nil, vcM, List.getElem?_toArray, List.getElem?_cons_zero, List.getElem?_cons_succ])
  by_cases h0 : 0 ≤ i
  · (refine W_at c43_ok ?_; refine ⟨_, rfl, ?_⟩; simp (disch := first | omega | assumption | rfl | (simp only [vcS] <;> omega) | fail) only [↓ptV_l, ↓vcA, vcB, ↓vcD, vcE, ↓reduceIte, Nat.reduceEqDiff, Nat.reduceAdd, Nat.reduceMul, Nat.reduceLeDiff, Int.reduceLE, Int.reduceLT, Int.reduceEq, Int.reduceToNat, Int.reduceAdd, Int.reduceSub, Int.reduceMul, Int.reduceNeg, reduceCtorEq, Option.bind_some, Option.map_some, List.length_cons, List.length_nil, vcM, List.getElem?_toArray, List.getElem?_cons_zero, List.getElem?_cons_succ, h0, h1])
    (refine W_at c43_ok ?_; refine ⟨_, rfl, ?_⟩; simp (disch := first | omega | assumption | rfl | (simp only [vcS] <;> omega) | fail) only [↓ptV_l, ↓vcA, vcB, ↓vcD, vcE, ↓reduceIte, Nat.reduceEqDiff, Nat.reduceAdd, Nat.reduceMul, Nat.reduceLeDiff, Int.reduceLE, Int.reduceLT, Int.reduceEq, Int.reduceToNat, Int.reduceAdd, Int.reduceSub, Int.reduceMul, Int.reduceNeg, reduceCtorEq, Option.bind_some, Option.map_some, List.length_cons, List.length_nil, vcM, List.getElem?_toArray, List.getElem?_cons_zero, List.getElem?_cons_succ, Ret_returned])
    simp
  · (refine W_at c43_ok ?_; refine ⟨_, rfl, ?_⟩; simp (disch := first | omega | assumption | rfl | (simp only [vcS] <;> omega) | fail) only [↓ptV_l, ↓vcA, vcB, ↓vcD, vcE, ↓reduceIte, Nat.reduceEqDiff, Nat.reduceAdd, Nat.reduceMul, Nat.reduceLeDiff, Int.reduceLE, Int.reduceLT, Int.reduceEq, Int.reduceToNat, Int.reduceAdd, Int.reduceSub, Int.reduceMul, Int.reduceNeg, reduceCtorEq, Option.bind_some, Option.map_some, List.length_cons, List.length_nil, vcM, List.getElem?_toArray, List.getElem?_cons_zero, List.getElem?_cons_succ, h0, h1])
    (refine W_at c43_ok ?_; refine ⟨_, rfl, ?_⟩; simp (disch := first | omega | assumption | rfl | (simp only [vcS] <;> omega) | fail) only [↓ptV_l, ↓vcA, vcB, ↓vcD, vcE, ↓reduceIte, Nat.reduceEqDiff, Nat.reduceAdd, Nat.reduceMul, Nat.reduceLeDiff, Int.reduceLE, Int.reduceLT, Int.reduceEq, Int.reduceToNat, Int.reduceAdd, Int.reduceSub, Int.reduceMul, Int.reduceNeg, reduceCtorEq, Option.bind_some, Option.map_some, List.length_cons, List.length_nil, vcM, List.getElem?_toArray, List.getElem?_cons_zero, List.getElem?_cons_succ, Ret_returned])
    simp [h0]
theorem sectors_ok (w : World) (p r : Nat) (qv : Value) (d : DS) (h : DAt w p r qv d) :
    Calls Try.prog 26 #[.pointer (some ⟨p, 0, none⟩)] w (Ret fun u w' => u = .int .i64 (d.n : Nat) ∧ w' = w) := by
  refine calls_of_cfg c26_ok (Nat.le_of_ble_eq_true rfl) ?_
  simp only [argE_nil, argE_cons, Nat.reduceAdd, Nat.zero_add]
  obtain ⟨f, a, h1, _⟩ := h.obj
  (refine W_at c26_ok ?_; refine ⟨_, rfl, ?_⟩; simp (disch := first | omega | assumption | rfl | (simp only [vcS] <;> omega) | fail) only [↓ptV_l, ↓vcA, vcB, ↓vcD, vcE, ↓reduceIte, Nat.reduceEqDiff, Nat.reduceAdd, Nat.reduceMul, Nat.reduceLeDiff, Int.reduceLE, Int.reduceLT, Int.reduceEq, Int.reduceToNat, Int.reduceAdd, Int.reduceSub, Int.reduceMul, Int.reduceNeg, reduceCtorEq, Option.bind_some, Option.map_some, List.length_cons, List.length_nil, vcM, List.getElem?_toArray, List.getElem?_cons_zero, List.getElem?_cons_succ])
  (refine W_at c26_ok ?_; refine ⟨_, rfl, ?_⟩; simp (disch := first | omega | assumption | rfl | (simp only [vcS] <;> omega) | fail) only [↓ptV_l, ↓vcA, vcB, ↓vcD, vcE, ↓reduceIte, Nat.reduceEqDiff, Nat.reduceAdd, Nat.reduceMul, Nat.reduceLeDiff, Int.reduceLE, Int.reduceLT, Int.reduceEq, Int.reduceToNat, Int.reduceAdd, Int.reduceSub, Int.reduceMul, Int.reduceNeg, reduceCtorEq, Option.bind_some, Option.map_some, List.length_cons, List.length_nil, vcM, List.getElem?_toArray, List.getElem?_cons_zero, List.getElem?_cons_succ, h1])
  (refine W_at c26_ok ?_; refine ⟨_, rfl, ?_⟩; simp (disch := first | omega | assumption | rfl | (simp only [vcS] <;> omega) | fail) only [↓ptV_l, ↓vcA, vcB, ↓vcD, vcE, ↓reduceIte, Nat.reduceEqDiff, Nat.reduceAdd, Nat.reduceMul, Nat.reduceLeDiff, Int.reduceLE, Int.reduceLT, Int.reduceEq, Int.reduceToNat, Int.reduceAdd, Int.reduceSub, Int.reduceMul, Int.reduceNeg, reduceCtorEq, Option.bind_some, Option.map_some, List.length_cons, List.length_nil, vcM, List.getElem?_toArray, List.getElem?_cons_zero, List.getElem?_cons_succ, Ret_returned])
def armD (d : DS) (n : Int) : DS := { d with left := if n < 0 then -1 else n }
theorem arm_ok (w : World) (p r : Nat) (qv : Value) (d : DS) (n : Int) (h : DAt w p r qv d) (hn : -9223372036854775808 ≤ n ∧ n ≤ 9223372036854775807) :
    Calls Try.prog 21 #[.pointer (some ⟨p, 0, none⟩), .int .i64 n] w (Ret fun u w' => DAt w' p r qv (armD d n) ∧ Keep (fun k => k = p) w w') := by
  refine calls_of_cfg c21_ok (Nat.le_of_ble_eq_true rfl) ?_
  simp only [argE_nil, argE_cons, Nat.reduceAdd, Nat.zero_add]
  obtain ⟨f, a, h1, h2⟩ := h.obj
  (refine W_at c21_ok ?_; refine ⟨_, rfl, ?_⟩; simp (disch := first | omega | assumption | rfl | (simp only [vcS] <;> omega) | fail) only [↓ptV_l, ↓vcA, vcB, ↓vcD, vcE, ↓reduceIte, Nat.reduceEqDiff, Nat.reduceAdd, Nat.reduceMul, Nat.reduceLeDiff, Int.reduceLE, Int.reduceLT, Int.reduceEq, Int.reduceToNat, Int.reduceAdd, Int.reduceSub, Int.reduceMul, Int.reduceNeg, reduceCtorEq, Option.bind_some, Option.map_some, List.length_cons, List.length_nil, vcM, List.getElem?_toArray, List.getElem?_cons_zero, List.getElem?_cons_succ])
  refine ⟨wr1_of h1 (by simp), ?_⟩
  have h3 : (w.setCell ⟨p, 3, none⟩ (.int .i64 n)).heap[p]? = some (.cells #[.int .i64 (d.n : Nat), .map (some r), qv, .int .i64 n, .bool a, .bool d.dead] 58 (0, 0)) := by rw [heap_setCell_eq h1]; rfl
  have k1 : Keep (fun k => k = p) w (w.setCell ⟨p, 3, none⟩ (.int .i64 n)) := (Keep.refl _ w).setCell _ fun _ => rfl
  generalize World.setCell _ _ _ = w1 at h3 k1 ⊢
  refine ⟨wr1_of h3 (by simp), ?_⟩
  have h4 : (w1.setCell ⟨p, 4, none⟩ (.bool (decide (0 ≤ n)))).heap[p]? = some (.cells #[.int .i64 (d.n : Nat), .map (some r), qv, .int .i64 n, .bool (decide (0 ≤ n)), .bool d.dead] 58 (0, 0)) := by rw [heap_setCell_eq h3]; rfl
  have k2 := k1.setCell (b := p) (o := 4) (s := none) (.bool (decide (0 ≤ n))) fun _ => rfl
  generalize World.setCell _ _ _ = w2 at h4 k2 ⊢
  (refine W_at c21_ok ?_; refine ⟨_, rfl, ?_⟩; simp (disch := first | omega | assumption | rfl | (simp only [vcS] <;> omega) | fail) only [↓ptV_l, ↓vcA, vcB, ↓vcD, vcE, ↓reduceIte, Nat.reduceEqDiff, Nat.reduceAdd, Nat.reduceMul, Nat.reduceLeDiff, Int.reduceLE, Int.reduceLT, Int.reduceEq, Int.reduceToNat, Int.reduceAdd, Int.reduceSub, Int.reduceMul, Int.reduceNeg, reduceCtorEq, Option.bind_some, Option.map_some, List.length_cons, List.length_nil, vcM, List.getElem?_toArray, List.getElem?_cons_zero, List.getElem?_cons_succ, Ret_returned])
  refine ⟨⟨⟨n, _, h4, fun _ => ?_, hn⟩, ?_, h.queue.keep k2 fun g hg e => by subst e; exact h.ne.2.1 hg⟩, k2⟩
  · simp only [armD]
    split
    · exact ⟨by rw [decide_eq_decide]; omega, by omega⟩
    · exact ⟨rfl, fun _ => rfl⟩
  · obtain ⟨l, m1, m2⟩ := h.map
    exact ⟨l, m1.keep k2 fun e => h.ne.1 e.symm, m2⟩
def callD (d : DS) : DS × Bool := if d.dead then (d, false) else if d.left = 0 then ({ d with dead := true }, false) else if d.left > 0 then ({ d with left := d.left - 1 }, true) else (d, true)
set_option maxHeartbeats 800000 in
theorem burn_ok (w : World) (p r : Nat) (qv : Value) (d : DS) (h : DAt w p r qv d) (hl : -1 ≤ d.left ∧ d.left ≤ 9223372036854775807) :
    Calls Try.prog 55 #[.pointer (some ⟨p, 0, none⟩)] w (Ret fun u w' => u = .int .i64 (if (callD d).2 then 0 else 10) ∧ DAt w' p r qv (callD d).1 ∧ Keep (fun k => k = p) w w') := by
  refine calls_of_cfg c55_ok (Nat.le_of_ble_eq_true rfl) ?_
  simp only [argE_nil, argE_cons, Nat.reduceAdd, Nat.zero_add]
  obtain ⟨f, a, h1, h2, h3⟩ := h.obj
  have fin : ∀ (d' : DS) (w' : World) (tl : Env) (f' : Int) (a' : Bool), Keep (fun k => k = p) w w' → w'.heap[p]? = some (.cells #[.int .i64 (d.n : Nat), .map (some r), qv, .int .i64 f', .bool a', .bool d'.dead] 58 (0, 0)) →
      (d'.dead = false → a' = decide (0 ≤ d'.left) ∧ (0 ≤ d'.left → f' = d'.left)) → (-9223372036854775808 ≤ f' ∧ f' ≤ 9223372036854775807) → d'.n = d.n → d'.safe = d.safe → d'.queue = d.queue → (callD d) = (d', !d'.dead) →
      W Try.prog (Ret fun u w' => u = .int .i64 (if (callD d).2 then 0 else 10) ∧ DAt w' p r qv (callD d).1 ∧ Keep (fun k => k = p) w w') 55 6 ((0, .pointer (some ⟨p, 0, none⟩)) :: tl) w' := by
    intro d' w' tl f' a' hk ho ha hf e1 e2 e3 e4
    have hD : DAt w' p r qv d' := by
      refine ⟨⟨f', a', by rw [e1]; exact ho, ha, hf⟩, ?_, ?_⟩
      · rw [e2]
        obtain ⟨l, m1, m2⟩ := h.map
        exact ⟨l, m1.keep hk fun e => h.ne.1 e.symm, m2⟩
      · rw [e3]
        exact h.queue.keep hk fun g hg e => by subst e; exact h.ne.2.1 hg
    rw [e4]
    cases hd : d'.dead with
    | true =>
      rw [hd] at ho
      (refine W_at c55_ok ?_; refine ⟨_, rfl, ?_⟩; simp (disch := first | omega | assumption | rfl | (simp only [vcS] <;> omega) | fail) only [↓ptV_l, ↓vcA, vcB, ↓vcD, vcE, ↓reduceIte, Nat.reduceEqDiff, Nat.reduceAdd, Nat.reduceMul, Nat.reduceLeDiff, Int.reduceLE, Int.reduceLT, Int.reduceEq, Int.reduceToNat, Int.reduceAdd, Int.reduceSub, Int.reduceMul, Int.reduceNeg, reduceCtorEq, Option.bind_some, Option.map_some, List.length_cons, List.length_nil, vcM, List.getElem?_toArray, List.getElem?_cons_zero, List.getElem?_cons_succ, ho])
      (refine W_at c55_ok ?_; refine ⟨_, rfl, ?_⟩; simp (disch := first | omega | assumption | rfl | (simp only [vcS] <;> omega) | fail) only [↓ptV_l, ↓vcA, vcB, ↓vcD, vcE, ↓reduceIte, Nat.reduceEqDiff, Nat.reduceAdd, Nat.reduceMul, Nat.reduceLeDiff, Int.reduceLE, Int.reduceLT, Int.reduceEq, Int.reduceToNat, Int.reduceAdd, Int.reduceSub, Int.reduceMul, Int.reduceNeg, reduceCtorEq, Option.bind_some, Option.map_some, List.length_cons, List.length_nil, vcM, List.getElem?_toArray, List.getElem?_cons_zero, List.getElem?_cons_succ])
      (refine W_at c55_ok ?_; refine ⟨_, rfl, ?_⟩; simp (disch := first | omega | assumption | rfl | (simp only [vcS] <;> omega) | fail) only [↓ptV_l, ↓vcA, vcB, ↓vcD, vcE, ↓reduceIte, Nat.reduceEqDiff, Nat.reduceAdd, Nat.reduceMul, Nat.reduceLeDiff, Int.reduceLE, Int.reduceLT, Int.reduceEq, Int.reduceToNat, Int.reduceAdd, Int.reduceSub, Int.reduceMul, Int.reduceNeg, reduceCtorEq, Option.bind_some, Option.map_some, List.length_cons, List.length_nil, vcM, List.getElem?_toArray, List.getElem?_cons_zero, List.getElem?_cons_succ])
      (refine W_at c55_ok ?_; refine ⟨_, rfl, ?_⟩; simp (disch := first | omega | assumption | rfl | (simp only [vcS] <;> omega) | fail) only [↓ptV_l, ↓vcA, vcB, ↓vcD, vcE, ↓reduceIte, Nat.reduceEqDiff, Nat.reduceAdd, Nat.reduceMul, Nat.reduceLeDiff, Int.reduceLE, Int.reduceLT, Int.reduceEq, Int.reduceToNat, Int.reduceAdd, Int.reduceSub, Int.reduceMul, Int.reduceNeg, reduceCtorEq, Option.bind_some, Option.map_some, List.length_cons, List.length_nil, vcM, List.getElem?_toArray, List.getElem?_cons_zero, List.getElem?_cons_succ, Ret_returned])
      exact ⟨hD, hk⟩
    | false =>
      rw [hd] at ho
      (refine W_at c55_ok ?_; refine ⟨_, rfl, ?_⟩; simp (disch := first | omega | assumption | rfl | (simp only [vcS] <;> omega) | fail) only [↓ptV_l, ↓vcA, vcB, ↓vcD, vcE, ↓reduceIte, Nat.reduceEqDiff, Nat.reduceAdd, Nat.reduceMul, Nat.reduceLeDiff, Int.reduceLE, Int.reduceLT, Int.reduceEq, Int.reduceToNat, Int.reduceAdd, Int.reduceSub, Int.reduceMul, Int.reduceNeg, reduceCtorEq, Option.bind_some, Option.map_some, List.length_cons, List.length_nil, vcM, List.getElem?_toArray, List.getElem?_cons_zero, List.getElem?_cons_succ, ho])
      (refine W_at c55_ok ?_; refine ⟨_, rfl, ?_⟩; simp (disch := first | omega | assumption | rfl | (simp only [vcS] <;> omega) | fail) only [↓ptV_l, ↓vcA, vcB, ↓vcD, vcE, ↓reduceIte, Nat.reduceEqDiff, Nat.reduceAdd, Nat.reduceMul, Nat.reduceLeDiff, Int.reduceLE, Int.reduceLT, Int.reduceEq, Int.reduceToNat, Int.reduceAdd, Int.reduceSub, Int.reduceMul, Int.reduceNeg, reduceCtorEq, Option.bind_some, Option.map_some, List.length_cons, List.length_nil, vcM, List.getElem?_toArray, List.getElem?_cons_zero, List.getElem?_cons_succ])
      (refine W_at c55_ok ?_; refine ⟨_, rfl, ?_⟩; simp (disch := first | omega | assumption | rfl | (simp only [vcS] <;> omega) | fail) only [↓ptV_l, ↓vcA, vcB, ↓vcD, vcE, ↓reduceIte, Nat.reduceEqDiff, Nat.reduceAdd, Nat.reduceMul, Nat.reduceLeDiff, Int.reduceLE, Int.reduceLT, Int.reduceEq, Int.reduceToNat, Int.reduceAdd, Int.reduceSub, Int.reduceMul, Int.reduceNeg, reduceCtorEq, Option.bind_some, Option.map_some, List.length_cons, List.length_nil, vcM, List.getElem?_toArray, List.getElem?_cons_zero, List.getElem?_cons_succ])
      (refine W_at c55_ok ?_; refine ⟨_, rfl, ?_⟩; simp (disch := first | omega | assumption | rfl | (simp only [vcS] <;> omega) | fail) only [↓ptV_l, ↓vcA, vcB, ↓vcD, vcE, ↓reduceIte, Nat.reduceEqDiff, Nat.reduceAdd, Nat.reduceMul, Nat.reduceLeDiff, Int.reduceLE, Int.reduceLT, Int.reduceEq, Int.reduceToNat, Int.reduceAdd, Int.reduceSub, Int.reduceMul, Int.reduceNeg, reduceCtorEq, Option.bind_some, Option.map_some, List.length_cons, List.length_nil, vcM, List.getElem?_toArray, List.getElem?_cons_zero, List.getElem?_cons_succ, Ret_returned])
      exact ⟨hD, hk⟩
  (refine W_at c55_ok ?_; refine ⟨_, rfl, ?_⟩; simp (disch := first | omega | assumption | rfl | (simp only [vcS] <;> omega) | fail) only [↓ptV_l, ↓vcA, vcB, ↓vcD, vcE, ↓reduceIte, Nat.reduceEqDiff, Nat.reduceAdd, Nat.reduceMul, Nat.reduceLeDiff, Int.reduceLE, Int.reduceLT, Int.reduceEq, Int.reduceToNat, Int.reduceAdd, Int.reduceSub, Int.reduceMul, Int.reduceNeg, reduceCtorEq, Option.bind_some, Option.map_some, List.length_cons, List.length_nil, vcM, List.getElem?_toArray, List.getElem?_cons_zero, List.getElem?_cons_succ])
  cases hd : d.dead with
  | true =>
    have hc : callD d = (d, !d.dead) := by rw [callD, hd]; rfl
    have h1' := h1
    rw [hd] at h1'
    cases a with
    | true =>
      (refine W_at c55_ok ?_; refine ⟨_, rfl, ?_⟩; simp (disch := first | omega | assumption | rfl | (simp only [vcS] <;> omega) | fail) only [↓ptV_l, ↓vcA, vcB, ↓vcD, vcE, ↓reduceIte, Nat.reduceEqDiff, Nat.reduceAdd, Nat.reduceMul, Nat.reduceLeDiff, Int.reduceLE, Int.reduceLT, Int.reduceEq, Int.reduceToNat, Int.reduceAdd, Int.reduceSub, Int.reduceMul, Int.reduceNeg, reduceCtorEq, Option.bind_some, Option.map_some, List.length_cons, List.length_nil, vcM, List.getElem?_toArray, List.getElem?_cons_zero, List.getElem?_cons_succ, h1'])
      (refine W_at c55_ok ?_; refine ⟨_, rfl, ?_⟩; simp (disch := first | omega | assumption | rfl | (simp only [vcS] <;> omega) | fail) only [↓ptV_l, ↓vcA, vcB, ↓vcD, vcE, ↓reduceIte, Nat.reduceEqDiff, Nat.reduceAdd, Nat.reduceMul, Nat.reduceLeDiff, Int.reduceLE, Int.reduceLT, Int.reduceEq, Int.reduceToNat, Int.reduceAdd, Int.reduceSub, Int.reduceMul, Int.reduceNeg, reduceCtorEq, Option.bind_some, Option.map_some, List.length_cons, List.length_nil, vcM, List.getElem?_toArray, List.getElem?_cons_zero, List.getElem?_cons_succ])
      exact fin d w _ f true (Keep.refl _ w) h1 h2 h3 rfl rfl rfl hc
    | false =>
      (refine W_at c55_ok ?_; refine ⟨_, rfl, ?_⟩; simp (disch := first | omega | assumption | rfl | (simp only [vcS] <;> omega) | fail) only [↓ptV_l, ↓vcA, vcB, ↓vcD, vcE, ↓reduceIte, Nat.reduceEqDiff, Nat.reduceAdd, Nat.reduceMul, Nat.reduceLeDiff, Int.reduceLE, Int.reduceLT, Int.reduceEq, Int.reduceToNat, Int.reduceAdd, Int.reduceSub, Int.reduceMul, Int.reduceNeg, reduceCtorEq, Option.bind_some, Option.map_some, List.length_cons, List.length_nil, vcM, List.getElem?_toArray, List.getElem?_cons_zero, List.getElem?_cons_succ, h1'])
      (refine W_at c55_ok ?_; refine ⟨_, rfl, ?_⟩; simp (disch := first | omega | assumption | rfl | (simp only [vcS] <;> omega) | fail) only [↓ptV_l, ↓vcA, vcB, ↓vcD, vcE, ↓reduceIte, Nat.reduceEqDiff, Nat.reduceAdd, Nat.reduceMul, Nat.reduceLeDiff, Int.reduceLE, Int.reduceLT, Int.reduceEq, Int.reduceToNat, Int.reduceAdd, Int.reduceSub, Int.reduceMul, Int.reduceNeg, reduceCtorEq, Option.bind_some, Option.map_some, List.length_cons, List.length_nil, vcM, List.getElem?_toArray, List.getElem?_cons_zero, List.getElem?_cons_succ])
      exact fin d w _ f false (Keep.refl _ w) h1 h2 h3 rfl rfl rfl hc
  | false =>
    obtain ⟨ha, hf⟩ := h2 hd
    have h1' := h1
    rw [hd] at h1'
    by_cases hneg : 0 ≤ d.left
    · have ha' : a = true := by rw [ha]; exact decide_eq_true hneg
      have hf' := hf hneg
      subst ha' hf'
      (refine W_at c55_ok ?_; refine ⟨_, rfl, ?_⟩; simp (disch := first | omega | assumption | rfl | (simp only [vcS] <;> omega) | fail) only [↓ptV_l, ↓vcA, vcB, ↓vcD, vcE, ↓reduceIte, Nat.reduceEqDiff, Nat.reduceAdd, Nat.reduceMul, Nat.reduceLeDiff, Int.reduceLE, Int.reduceLT, Int.reduceEq, Int.reduceToNat, Int.reduceAdd, Int.reduceSub, Int.reduceMul, Int.reduceNeg, reduceCtorEq, Option.bind_some, Option.map_some, List.length_cons, List.length_nil, vcM, List.getElem?_toArray, List.getElem?_cons_zero, List.getElem?_cons_succ, h1'])
      (refine W_at c55_ok ?_; refine ⟨_, rfl, ?_⟩; simp (disch := first | omega | assumption | rfl | (simp only [vcS] <;> omega) | fail) only [↓ptV_l, ↓vcA, vcB, ↓vcD, vcE, ↓reduceIte, Nat.reduceEqDiff, Nat.reduceAdd, Nat.reduceMul, Nat.reduceLeDiff, Int.reduceLE, Int.reduceLT, Int.reduceEq, Int.reduceToNat, Int.reduceAdd, Int.reduceSub, Int.reduceMul, Int.reduceNeg, reduceCtorEq, Option.bind_some, Option.map_some, List.length_cons, List.length_nil, vcM, List.getElem?_toArray, List.getElem?_cons_zero, List.getElem?_cons_succ])
      have hws : IntKind.i64.wrap (d.left - 1) = d.left - 1 := wrap_i64 (by omega) (by omega)
      (refine W_at c55_ok ?_; refine ⟨_, rfl, ?_⟩; simp (disch := first | omega | assumption | rfl | (simp only [vcS] <;> omega) | fail) only [↓ptV_l, ↓vcA, vcB, ↓vcD, vcE, ↓reduceIte, Nat.reduceEqDiff, Nat.reduceAdd, Nat.reduceMul, Nat.reduceLeDiff, Int.reduceLE, Int.reduceLT, Int.reduceEq, Int.reduceToNat, Int.reduceAdd, Int.reduceSub, Int.reduceMul, Int.reduceNeg, reduceCtorEq, Option.bind_some, Option.map_some, List.length_cons, List.length_nil, vcM, List.getElem?_toArray, List.getElem?_cons_zero, List.getElem?_cons_succ, h1'])
      refine ⟨wr1_of h1' (by simp), ?_⟩
      have g1 : (w.setCell ⟨p, 5, none⟩ (.bool (decide (d.left = 0)))).heap[p]? = some (.cells #[.int .i64 (d.n : Nat), .map (some r), qv, .int .i64 d.left, .bool true, .bool (decide (d.left = 0))] 58 (0, 0)) := by rw [heap_setCell_eq h1']; rfl
      have k1 : Keep (fun k => k = p) w (w.setCell ⟨p, 5, none⟩ (.bool (decide (d.left = 0)))) := (Keep.refl _ w).setCell _ fun _ => rfl
      generalize World.setCell _ _ _ = w1 at g1 k1 ⊢
      (refine W_at c55_ok ?_; refine ⟨_, rfl, ?_⟩; simp (disch := first | omega | assumption | rfl | (simp only [vcS] <;> omega) | fail) only [↓ptV_l, ↓vcA, vcB, ↓vcD, vcE, ↓reduceIte, Nat.reduceEqDiff, Nat.reduceAdd, Nat.reduceMul, Nat.reduceLeDiff, Int.reduceLE, Int.reduceLT, Int.reduceEq, Int.reduceToNat, Int.reduceAdd, Int.reduceSub, Int.reduceMul, Int.reduceNeg, reduceCtorEq, Option.bind_some, Option.map_some, List.length_cons, List.length_nil, vcM, List.getElem?_toArray, List.getElem?_cons_zero, List.getElem?_cons_succ, g1, hws])
      refine ⟨wr1_of g1 (by simp), ?_⟩
      have g2 : (w1.setCell ⟨p, 3, none⟩ (.int .i64 (d.left - 1))).heap[p]? = some (.cells #[.int .i64 (d.n : Nat), .map (some r), qv, .int .i64 (d.left - 1), .bool true, .bool (decide (d.left = 0))] 58 (0, 0)) := by rw [heap_setCell_eq g1]; rfl
      have k2 := k1.setCell (b := p) (o := 3) (s := none) (.int .i64 (d.left - 1)) fun _ => rfl
      generalize World.setCell _ _ _ = w2 at g2 k2 ⊢
      by_cases h0 : d.left = 0
      · have hc : callD d = ({ d with dead := true }, false) := by rw [callD, hd, if_neg (by simp), if_pos h0]
        refine fin { d with dead := true } w2 _ (d.left - 1) true k2 ?_ (fun h => by cases h) (by omega) rfl rfl rfl hc
        rw [g2, h0]; rfl
      · have hc : callD d = ({ d with left := d.left - 1 }, true) := by rw [callD, hd, if_neg (by simp), if_neg h0, if_pos (by omega)]
        refine fin { d with left := d.left - 1 } w2 _ (d.left - 1) true k2 ?_ (fun _ => ⟨(decide_eq_true (by show 0 ≤ d.left - 1; omega)).symm, fun _ => rfl⟩) (by omega) rfl rfl rfl (by rw [hc]; simp [hd])
        rw [g2]
        simp [h0, hd]
    · have ha' : a = false := by rw [ha]; exact decide_eq_false hneg
      subst ha'
      have hc : callD d = (d, !d.dead) := by rw [callD, hd, if_neg (by simp), if_neg (by omega), if_neg (by omega)]; rfl
      (refine W_at c55_ok ?_; refine ⟨_, rfl, ?_⟩; simp (disch := first | omega | assumption | rfl | (simp only [vcS] <;> omega) | fail) only [↓ptV_l, ↓vcA, vcB, ↓vcD, vcE, ↓reduceIte, Nat.reduceEqDiff, Nat.reduceAdd, Nat.reduceMul, Nat.reduceLeDiff, Int.reduceLE, Int.reduceLT, Int.reduceEq, Int.reduceToNat, Int.reduceAdd, Int.reduceSub, Int.reduceMul, Int.reduceNeg, reduceCtorEq, Option.bind_some, Option.map_some, List.length_cons, List.length_nil, vcM, List.getElem?_toArray, List.getElem?_cons_zero, List.getElem?_cons_succ, h1'])
      (refine W_at c55_ok ?_; refine ⟨_, rfl, ?_⟩; simp (disch := first | omega | assumption | rfl | (simp only [vcS] <;> omega) | fail) only [↓ptV_l, ↓vcA, vcB, ↓vcD, vcE, ↓reduceIte, Nat.reduceEqDiff, Nat.reduceAdd, Nat.reduceMul, Nat.reduceLeDiff, Int.reduceLE, Int.reduceLT, Int.reduceEq, Int.reduceToNat, Int.reduceAdd, Int.reduceSub, Int.reduceMul, Int.reduceNeg, reduceCtorEq, Option.bind_some, Option.map_some, List.length_cons, List.length_nil, vcM, List.getElem?_toArray, List.getElem?_cons_zero, List.getElem?_cons_succ])
      exact fin d w _ f false (Keep.refl _ w) h1 h2 h3 rfl rfl rfl hc
def modF (n m : Int) : Int := (n.tmod m).natAbs
theorem tmod_b (n : Int) {m : Int} (hm : 0 < m) : -m < n.tmod m ∧ n.tmod m < m := by
  constructor
  · have h1 := Int.lt_tmod_of_pos n hm; omega
  · exact Int.tmod_lt_of_pos n hm
theorem modulo_ok (w : World) (n m : Int) (hm : 0 < m ∧ m ≤ 1000000000) :
    Calls Try.prog 57 #[.int .i64 n, .int .i64 m] w (Ret fun u w' => u = .int .i64 (modF n m) ∧ w' = w) := by
  refine calls_of_cfg c57_ok (Nat.le_of_ble_eq_true rfl) ?_
  simp only [argE_nil, argE_cons, Nat.reduceAdd, Nat.zero_add]
  have hb := tmod_b n hm.1
  have hne : ¬ m = 0 := by omega
  have hwn : IntKind.i64.wrap (0 - n.tmod m) = -(n.tmod m) := by rw [wrap_i64 (by omega) (by omega)]; omega
  have hmx : max (n.tmod m) (-(n.tmod m)) = modF n m := by unfold modF; omega
  (refine W_at c57_ok ?_; refine ⟨_, rfl, ?_⟩; simp (disch := first | omega | assumption | rfl | (simp only [vcS] <;> omega) | fail) only [↓ptV_l, ↓vcA, vcB, ↓vcD, vcE, ↓reduceIte, Nat.reduceEqDiff, Nat.reduceAdd, Nat.reduceMul, Nat.reduceLeDiff, Int.reduceLE, Int.reduceLT, Int.reduceEq, Int.reduceToNat, Int.reduceAdd, Int.reduceSub, Int.reduceMul, Int.reduceNeg, reduceCtorEq, Option.bind_some, Option.map_some, List.length_cons, List.length_nil, vcM, List.getElem?_toArray, List.getElem?_cons_zero, List.getElem?_cons_succ])
  (refine W_at c57_ok ?_; refine ⟨_, rfl, ?_⟩; simp (disch := first | omega | assumption | rfl | (simp only [vcS] <;> omega) | fail) only [↓ptV_l, ↓vcA, vcB, ↓vcD, vcE, ↓reduceIte, Nat.reduceEqDiff, Nat.reduceAdd, Nat.reduceMul, Nat.reduceLeDiff, Int.reduceLE, Int.reduceLT, Int.reduceEq, Int.reduceToNat, Int.reduceAdd, Int.reduceSub, Int.reduceMul, Int.reduceNeg, reduceCtorEq, Option.bind_some, Option.map_some, List.length_cons, List.length_nil, vcM, List.getElem?_toArray, List.getElem?_cons_zero, List.getElem?_cons_succ, hne])
  (refine W_at c57_ok ?_; refine ⟨_, rfl, ?_⟩; simp (disch := first | omega | assumption | rfl | (simp only [vcS] <;> omega) | fail) only [↓ptV_l, ↓vcA, vcB, ↓vcD, vcE, ↓reduceIte, Nat.reduceEqDiff, Nat.reduceAdd, Nat.reduceMul, Nat.reduceLeDiff, Int.reduceLE, Int.reduceLT, Int.reduceEq, Int.reduceToNat, Int.reduceAdd, Int.reduceSub, Int.reduceMul, Int.reduceNeg, reduceCtorEq, Option.bind_some, Option.map_some, List.length_cons, List.length_nil, vcM, List.getElem?_toArray, List.getElem?_cons_zero, List.getElem?_cons_succ, hwn, hmx])
  (refine W_at c57_ok ?_; refine ⟨_, rfl, ?_⟩; simp (disch := first | omega | assumption | rfl | (simp only [vcS] <;> omega) | fail) only [↓ptV_l, ↓vcA, vcB, ↓vcD, vcE, ↓reduceIte, Nat.reduceEqDiff, Nat.reduceAdd, Nat.reduceMul, Nat.reduceLeDiff, Int.reduceLE, Int.reduceLT, Int.reduceEq, Int.reduceToNat, Int.reduceAdd, Int.reduceSub, Int.reduceMul, Int.reduceNeg, reduceCtorEq, Option.bind_some, Option.map_some, List.length_cons, List.length_nil, vcM, List.getElem?_toArray, List.getElem?_cons_zero, List.getElem?_cons_succ, Ret_returned])
theorem modF_b (n : Int) {m : Int} (hm : 0 < m) : 0 ≤ modF n m ∧ modF n m < m := by
  have := tmod_b n hm
  unfold modF; omega
def newD (n : Int) : DS := ⟨(max 0 (min n 65536)).toNat, fun _ => zsec, [], false, -1⟩
theorem new_ok (w : World) (n : Int) :
    Calls Try.prog 8 #[.int .i64 n] w (Ret fun u w' => ∃ p r, u = .pointer (some ⟨p, 0, none⟩) ∧ DAt w' p r (.slice none 0 0) (newD n) ∧ Ext w w' ∧ w.heap.size ≤ p ∧ w.heap.size ≤ r) := by
  refine calls_of_cfg c8_ok (Nat.le_of_ble_eq_true rfl) ?_
  simp only [argE_nil, argE_cons, Nat.reduceAdd, Nat.zero_add]
  have hmx : max 0 (min n 65536) = ((max 0 (min n 65536)).toNat : Nat) := by omega
  (refine W_at c8_ok ?_; refine ⟨_, rfl, ?_⟩; simp (disch := first | omega | assumption | rfl | (simp only [vcS] <;> omega) | fail) only [↓ptV_l, ↓vcA, vcB, ↓vcD, vcE, ↓reduceIte, Nat.reduceEqDiff, Nat.reduceAdd, Nat.reduceMul, Nat.reduceLeDiff, Int.reduceLE, Int.reduceLT, Int.reduceEq, Int.reduceToNat, Int.reduceAdd, Int.reduceSub, Int.reduceMul, Int.reduceNeg, reduceCtorEq, Option.bind_some, Option.map_some, List.length_cons, List.length_nil, vcM, List.getElem?_toArray, List.getElem?_cons_zero, List.getElem?_cons_succ])
  (refine W_at c8_ok ?_; refine ⟨_, rfl, ?_⟩; simp (disch := first | omega | assumption | rfl | (simp only [vcS] <;> omega) | fail) only [↓ptV_l, ↓vcA, vcB, ↓vcD, vcE, ↓reduceIte, Nat.reduceEqDiff, Nat.reduceAdd, Nat.reduceMul, Nat.reduceLeDiff, Int.reduceLE, Int.reduceLT, Int.reduceEq, Int.reduceToNat, Int.reduceAdd, Int.reduceSub, Int.reduceMul, Int.reduceNeg, reduceCtorEq, Option.bind_some, Option.map_some, List.length_cons, List.length_nil, vcM, List.getElem?_toArray, List.getElem?_cons_zero, List.getElem?_cons_succ])
  (refine W_at c8_ok ?_; refine ⟨_, rfl, ?_⟩; simp (disch := first | omega | assumption | rfl | (simp only [vcS] <;> omega) | fail) only [↓ptV_l, ↓vcA, vcB, ↓vcD, vcE, ↓reduceIte, Nat.reduceEqDiff, Nat.reduceAdd, Nat.reduceMul, Nat.reduceLeDiff, Int.reduceLE, Int.reduceLT, Int.reduceEq, Int.reduceToNat, Int.reduceAdd, Int.reduceSub, Int.reduceMul, Int.reduceNeg, reduceCtorEq, Option.bind_some, Option.map_some, List.length_cons, List.length_nil, vcM, List.getElem?_toArray, List.getElem?_cons_zero, List.getElem?_cons_succ, Ret_returned])
  have hr : ((w.alloc (.map #[] 0)).alloc (.cells (#[.int .i64 (max 0 (min n 65536))] ++ (#[.map (some w.heap.size)] ++ zc [(1, .slice none 0 0), (1, .int .i64 0), (2, .bool false)])) 58)).heap[w.heap.size + 1]? = some (.cells #[.int .i64 ((newD n).n : Nat), .map (some w.heap.size), .slice none 0 0, .int .i64 0, .bool false, .bool false] 58 (0, 0)) := by
    rw [heap_new _ _ _ (by rw [size_alloc]), hmx]; rfl
  have hm := (MapI.empty w).keep (w' := (w.alloc (.map #[] 0)).alloc (.cells (#[.int .i64 (max 0 (min n 65536))] ++ (#[.map (some w.heap.size)] ++ zc [(1, .slice none 0 0), (1, .int .i64 0), (2, .bool false)])) 58)) (S := fun _ => False) ((Keep.refl _ _).alloc _) (fun h => h)
  refine ⟨_, w.heap.size, rfl, ⟨⟨0, false, hr, fun _ => ⟨rfl, fun h => ?_⟩, by omega⟩, ⟨[], hm, fun k => .inr ⟨rfl, rfl⟩⟩, OwnO.nil _ _ _ _⟩, ((Keep.refl _ w).alloc _).alloc _, by omega, by omega⟩
  simp [newD] at h
end Go.Proofs
