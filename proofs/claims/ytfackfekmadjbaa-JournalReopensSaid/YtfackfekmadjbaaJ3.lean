/- A journal, as it lies; what its small parts answer. -/
import Derived.Test.YtfackfekmadjbaaJ2
import Derived.Test.YtfackfekmadjbaaW9
set_option linter.unusedSimpArgs false
set_option linter.unusedVariables false
set_option linter.constructorNameAsVariable false
namespace Go.Proofs
open Go.Vc
set_option maxRecDepth 10000

/-- Bytes in a block of bytes. -/
def ByT (w : World) (v : Value) (bs : List Int) : Prop := Rd w v bs ∧ ∀ g, blk v g → ∃ c, w.heap[g]? = some (.cells c 5 (0, 0))
theorem ByT.keep {S : Nat → Prop} {w w' : World} {v : Value} {bs : List Int} (h : ByT w v bs) (k : Keep S w w') (hS : ∀ g c, w.heap[g]? = some (.cells c 5 (0, 0)) → ¬ S g) : ByT w' v bs := by
  have hb : ∀ g, blk v g → ¬ S g := fun g hg => by
    obtain ⟨c, hc⟩ := h.2 g hg
    exact hS g c hc
  refine ⟨h.1.keep k fun q n c e => hb _ (by rw [e]; rfl), fun g hg => ?_⟩
  obtain ⟨c, hc⟩ := h.2 g hg
  exact ⟨c, k.at hc (hb g hg)⟩
theorem ByT.ext {w w' : World} {v : Value} {bs : List Int} (h : ByT w v bs) (k : Ext w w') : ByT w' v bs := h.keep k fun _ _ _ h => h
theorem ByT.own {w : World} {v : Value} {bs : List Int} (h : Own1 w v bs) : ByT w v bs := ⟨h.rd, fun _ hg => row_type h hg⟩
theorem ByT.nil (w : World) : ByT w (.slice none 0 0) [] := ByT.own (Own1.nil w)

inductive AllB (w : World) : List Value → List (List Int) → Prop where
  | nil : AllB w [] []
  | cons {v : Value} {b : List Int} {vs : List Value} {bs : List (List Int)} : ByT w v b → AllB w vs bs → AllB w (v :: vs) (b :: bs)
/-- Slices of bytes in a row. -/
def RowsT (w : World) (rv : Value) (rs : List (List Int)) : Prop := ∃ vs : List Value, OwnO w 0 30 1 rv (vs.map fun v => #[v]) ∧ AllB w vs rs
theorem forall2_keep {w w' : World} {vs : List Value} {rs : List (List Int)} (h : AllB w vs rs) (k : ∀ v bs, ByT w v bs → ByT w' v bs) : AllB w' vs rs := by
  induction h with
  | nil => exact .nil
  | cons h _ ih => exact .cons (k _ _ h) ih
theorem forall2_len {w : World} {vs : List Value} {rs : List (List Int)} (h : AllB w vs rs) : vs.length = rs.length := by
  induction h with
  | nil => rfl
  | cons _ _ ih => simp [ih]
theorem forall2_at {w : World} {vs : List Value} {rs : List (List Int)} (h : AllB w vs rs) : ∀ {i : Nat} (hi : i < rs.length), ∃ v, vs[i]? = some v ∧ ByT w v rs[i] := by
  induction h with
  | nil => intro i hi; simp at hi
  | cons h _ ih =>
    intro i hi
    cases i with
    | zero => exact ⟨_, rfl, h⟩
    | succ i =>
      obtain ⟨v, h1, h2⟩ := ih (i := i) (by simpa using hi)
      exact ⟨v, by simpa using h1, by simpa using h2⟩
theorem forall2_app {w : World} {vs : List Value} {rs : List (List Int)} {v : Value} {b : List Int} (h : AllB w vs rs) (k : ByT w v b) : AllB w (vs ++ [v]) (rs ++ [b]) := by
  induction h with
  | nil => exact .cons k .nil
  | cons h _ ih => exact .cons h ih
theorem RowsT.keep {S : Nat → Prop} {w w' : World} {rv : Value} {rs : List (List Int)} (h : RowsT w rv rs) (k : Keep S w w') (hS : ∀ g c, w.heap[g]? = some (.cells c 5 (0, 0)) → ¬ S g) (hT : ∀ g c, w.heap[g]? = some (.cells c 30 (0, 0)) → ¬ S g) : RowsT w' rv rs := by
  obtain ⟨vs, h1, h2⟩ := h
  exact ⟨vs, h1.keep k fun g hg => (h1.blk hg).2.elim fun c hc => hT g c hc, forall2_keep h2 fun v bs hb => hb.keep k hS⟩
theorem RowsT.ext {w w' : World} {rv : Value} {rs : List (List Int)} (h : RowsT w rv rs) (k : Ext w w') : RowsT w' rv rs := h.keep k (fun _ _ _ h => h) fun _ _ _ h => h
theorem RowsT.nil (w : World) : RowsT w (.slice none 0 0) [] := ⟨[], OwnO.nil _ _ _ _, .nil⟩
theorem RowsT.len {w : World} {rv : Value} {rs : List (List Int)} (h : RowsT w rv rs) : lenR rv = some (.int .i64 (rs.length : Nat)) := by
  obtain ⟨vs, h1, h2⟩ := h
  have := h1.len
  rwa [List.length_map, forall2_len h2] at this
theorem RowsT.one {w : World} {rv : Value} {rs : List (List Int)} (h : RowsT w rv rs) : rv.oneCell' = true := by
  obtain ⟨vs, h1, _⟩ := h
  exact h1.one
theorem RowsT.at {w : World} {rv : Value} {rs : List (List Int)} (h : RowsT w rv rs) {i : Nat} (hi : i < rs.length) :
    ∃ g o cap v, rv = .slice (some ⟨g, o, none⟩) rs.length cap ∧ cellO w.heap[g]? (o + i) = some v ∧ ByT w v rs[i] := by
  obtain ⟨vs, h1, h2⟩ := h
  have hl := forall2_len h2
  obtain ⟨v, hv, hb⟩ := forall2_at h2 hi
  have hvl : i < (vs.map fun v => #[v]).length := by rw [List.length_map]; omega
  obtain ⟨g, o, cap, cur, e, hh, hr⟩ := h1.at hvl
  refine ⟨g, o, cap, v, by rw [e, List.length_map, hl], ?_, hb⟩
  rw [Nat.mul_one] at hr
  have := rdO_cell hr (j := 0) (by omega)
  rw [Nat.add_zero] at this
  rw [this]
  have hvi : vs[i]? = some v := hv
  simp only [List.getElem_map]
  rw [List.getElem?_eq_getElem (by omega)] at hvi
  rw [Option.some.inj hvi]
  rfl

structure JAt (w : World) (jp p : Nat) (sv rv : Value) (J : JS) : Prop where
  obj : w.heap[jp]? = some (.cells #[.pointer (some ⟨p, 0, none⟩), .int .u8 J.head, .int .i64 (J.pos : Nat), sv, rv] 62 (0, 0))
  state : ByT w sv J.state
  recs : RowsT w rv J.recs
theorem JAt.keep {S : Nat → Prop} {w w' : World} {jp p : Nat} {sv rv : Value} {J : JS} (h : JAt w jp p sv rv J) (k : Keep S w w') (h1 : ¬ S jp) (h2 : ∀ g c, w.heap[g]? = some (.cells c 5 (0, 0)) → ¬ S g)
    (h3 : ∀ g c, w.heap[g]? = some (.cells c 30 (0, 0)) → ¬ S g) : JAt w' jp p sv rv J :=
  ⟨k.at h.obj h1, h.state.keep k h2, h.recs.keep k h2 h3⟩
theorem JAt.ext {w w' : World} {jp p : Nat} {sv rv : Value} {J : JS} (h : JAt w jp p sv rv J) (k : Ext w w') : JAt w' jp p sv rv J := h.keep k (fun h => h) (fun _ _ _ h => h) fun _ _ _ h => h
theorem DAt.nob {w : World} {p r : Nat} {qv : Value} {d : DS} (hd : DAt w p r qv d) {g : Nat} {c : Array Value} {t : TypeId} (hg : w.heap[g]? = some (.cells c t (0, 0))) (h1 : t ≠ 58) (h2 : t ≠ 77) : ¬ DB p r qv g := fun hb => by
  rcases hd.kind hb with ⟨es, c2, e⟩ | ⟨c2, t2, e, ht⟩
  · rw [hg] at e; cases e
  · rw [hg] at e
    cases e
    rcases ht with e | e
    · exact h1 e
    · exact h2 e
theorem JAt.disk {w w' : World} {jp p p' r : Nat} {sv rv qv : Value} {J : JS} {d : DS} (h : JAt w jp p' sv rv J) (hd : DAt w p r qv d) (k : Keep (DB p r qv) w w') : JAt w' jp p' sv rv J :=
  h.keep k (hd.nob h.obj (by decide) (by decide)) (fun _ _ hg => hd.nob hg (by decide) (by decide)) fun _ _ hg => hd.nob hg (by decide) (by decide)
theorem JAt.lt {w : World} {jp p : Nat} {sv rv : Value} {J : JS} (h : JAt w jp p sv rv J) : jp < w.heap.size := lt_of_heap h.obj

theorem secs_b {n : Nat} (h : n ≤ 65536) : secs n ≤ 32767 := by unfold secs; omega
theorem base_b {n : Nat} {h : Int} (hn : n ≤ 65536) : baseN n h ≤ 1 + secs n := by
  unfold baseN
  have : (h % 2).toNat ≤ 1 := by omega
  have := Nat.mul_le_mul_right (secs n) this
  omega
theorem sectorsJ_ok (w : World) (jp p r : Nat) (sv rv qv : Value) (J : JS) (d : DS) (h : JAt w jp p sv rv J) (hd : DAt w p r qv d) (hk : d.Ok) (hn : 16 ≤ d.n) :
    Calls Try.prog 28 #[.pointer (some ⟨jp, 0, none⟩)] w (Ret fun u w' => u = .int .i64 (secs d.n : Nat) ∧ w' = w) := by
  refine calls_of_cfg c28_ok (Nat.le_of_ble_eq_true rfl) ?_
  simp only [argE_nil, argE_cons, Nat.reduceAdd, Nat.zero_add]
  have hn2 := hk.n
  have ho := h.obj
  have h1 : IntKind.i64.wrap ((d.n : Int) - 1) = ((d.n - 1 : Nat) : Int) := by rw [wrap_i64 (by omega) (by omega)]; omega
  have h2 : IntKind.i64.wrap (Int.tdiv ((d.n - 1 : Nat) : Int) 2) = ((secs d.n : Nat) : Int) := by
    rw [Int.tdiv_eq_ediv_of_nonneg (by omega), wrap_i64 (by omega) (by omega)]; unfold secs; omega
  (refine W_at c28_ok ?_; refine ⟨_, rfl, ?_⟩; simp (disch := first | omega | assumption | rfl | (simp only [vcS] <;> omega) | fail) only [↓ptV_l, ↓vcA, vcB, ↓vcD, vcE, ↓reduceIte, Nat.reduceEqDiff, Nat.reduceAdd, Nat.reduceMul, Nat.reduceLeDiff, Int.reduceLE, Int.reduceLT, Int.reduceEq, Int.reduceToNat, Int.reduceAdd, Int.reduceSub, Int.reduceMul, Int.reduceNeg, reduceCtorEq, Option.bind_some, Option.map_some, List.length_cons, List.length_nil, vcM, List.getElem?_toArray, List.getElem?_cons_zero, List.getElem?_cons_succ])
  (refine W_at c28_ok ?_; refine ⟨_, rfl, ?_⟩; simp (disch := first | omega | assumption | rfl | (simp only [vcS] <;> omega) | fail) only [↓ptV_l, ↓vcA, vcB, ↓vcD, vcE, ↓reduceIte, Nat.reduceEqDiff, Nat.reduceAdd, Nat.reduceMul, Nat.reduceLeDiff, Int.reduceLE, Int.reduceLT, Int.reduceEq, Int.reduceToNat, Int.reduceAdd, Int.reduceSub, Int.reduceMul, Int.reduceNeg, reduceCtorEq, Option.bind_some, Option.map_some, List.length_cons, List.length_nil, vcM, List.getElem?_toArray, List.getElem?_cons_zero, List.getElem?_cons_succ, ho])
  refine callV_ret (sectors_ok w p r qv d hd) ?_
  rintro _ w1 ⟨rfl, hw⟩
  obtain rfl : w = w1 := hw.symm
  simp (disch := first | omega | assumption | rfl | (simp only [vcS] <;> omega) | fail) only [↓ptV_l, ↓vcA, vcB, ↓vcD, vcE, ↓reduceIte, Nat.reduceEqDiff, Nat.reduceAdd, Nat.reduceMul, Nat.reduceLeDiff, Int.reduceLE, Int.reduceLT, Int.reduceEq, Int.reduceToNat, Int.reduceAdd, Int.reduceSub, Int.reduceMul, Int.reduceNeg, reduceCtorEq, Option.bind_some, Option.map_some, List.length_cons, List.length_nil, vcM, List.getElem?_toArray, List.getElem?_cons_zero, List.getElem?_cons_succ, h1, h2]
  (refine W_at c28_ok ?_; refine ⟨_, rfl, ?_⟩; simp (disch := first | omega | assumption | rfl | (simp only [vcS] <;> omega) | fail) only [↓ptV_l, ↓vcA, vcB, ↓vcD, vcE, ↓reduceIte, Nat.reduceEqDiff, Nat.reduceAdd, Nat.reduceMul, Nat.reduceLeDiff, Int.reduceLE, Int.reduceLT, Int.reduceEq, Int.reduceToNat, Int.reduceAdd, Int.reduceSub, Int.reduceMul, Int.reduceNeg, reduceCtorEq, Option.bind_some, Option.map_some, List.length_cons, List.length_nil, vcM, List.getElem?_toArray, List.getElem?_cons_zero, List.getElem?_cons_succ, Ret_returned])
theorem baseJ_ok (w : World) (jp p r : Nat) (sv rv qv : Value) (J : JS) (d : DS) (hd : Int) (h : JAt w jp p sv rv J) (hD : DAt w p r qv d) (hk : d.Ok) (hn : 16 ≤ d.n) (hh : 0 ≤ hd ∧ hd ≤ 255) :
    Calls Try.prog 29 #[.pointer (some ⟨jp, 0, none⟩), .int .u8 hd] w (Ret fun u w' => u = .int .i64 (baseN d.n hd : Nat) ∧ w' = w) := by
  refine calls_of_cfg c29_ok (Nat.le_of_ble_eq_true rfl) ?_
  simp only [argE_nil, argE_cons, Nat.reduceAdd, Nat.zero_add]
  have hs := secs_b hk.n
  have h0 : hd.tmod 2 = hd % 2 := Int.tmod_eq_emod_of_nonneg hh.1
  have h1 : IntKind.i64.wrap (hd % 2) = hd % 2 := wrap_i64 (by omega) (by omega)
  have hb2 : hd % 2 = 0 ∨ hd % 2 = 1 := by omega
  have hm0 : (hd % 2) * ((secs d.n : Nat) : Int) = (((hd % 2).toNat * secs d.n : Nat) : Int) := by
    rcases hb2 with e | e
    · rw [e]; simp
    · rw [e]; simp
  have hmb : (hd % 2).toNat * secs d.n ≤ 32767 := by
    rcases hb2 with e | e
    · rw [e]; simp
    · rw [e]; simp; omega
  have h2 : IntKind.i64.wrap ((hd % 2) * ((secs d.n : Nat) : Int)) = (((hd % 2).toNat * secs d.n : Nat) : Int) := by rw [hm0]; exact wrap_i64 (by omega) (by omega)
  have h3 : IntKind.i64.wrap (1 + (((hd % 2).toNat * secs d.n : Nat) : Int)) = ((baseN d.n hd : Nat) : Int) := by
    rw [wrap_i64 (by omega) (by omega)]; unfold baseN; omega
  (refine W_at c29_ok ?_; refine ⟨_, rfl, ?_⟩; simp (disch := first | omega | assumption | rfl | (simp only [vcS] <;> omega) | fail) only [↓ptV_l, ↓vcA, vcB, ↓vcD, vcE, ↓reduceIte, Nat.reduceEqDiff, Nat.reduceAdd, Nat.reduceMul, Nat.reduceLeDiff, Int.reduceLE, Int.reduceLT, Int.reduceEq, Int.reduceToNat, Int.reduceAdd, Int.reduceSub, Int.reduceMul, Int.reduceNeg, reduceCtorEq, Option.bind_some, Option.map_some, List.length_cons, List.length_nil, vcM, List.getElem?_toArray, List.getElem?_cons_zero, List.getElem?_cons_succ])
  (refine W_at c29_ok ?_; refine ⟨_, rfl, ?_⟩; simp (disch := first | omega | assumption | rfl | (simp only [vcS] <;> omega) | fail) only [↓ptV_l, ↓vcA, vcB, ↓vcD, vcE, ↓reduceIte, Nat.reduceEqDiff, Nat.reduceAdd, Nat.reduceMul, Nat.reduceLeDiff, Int.reduceLE, Int.reduceLT, Int.reduceEq, Int.reduceToNat, Int.reduceAdd, Int.reduceSub, Int.reduceMul, Int.reduceNeg, reduceCtorEq, Option.bind_some, Option.map_some, List.length_cons, List.length_nil, vcM, List.getElem?_toArray, List.getElem?_cons_zero, List.getElem?_cons_succ, h0, h1])
  refine callV_ret (sectorsJ_ok w jp p r sv rv qv J d h hD hk hn) ?_
  rintro _ w1 ⟨rfl, hw⟩
  obtain rfl : w = w1 := hw.symm
  simp (disch := first | omega | assumption | rfl | (simp only [vcS] <;> omega) | fail) only [↓ptV_l, ↓vcA, vcB, ↓vcD, vcE, ↓reduceIte, Nat.reduceEqDiff, Nat.reduceAdd, Nat.reduceMul, Nat.reduceLeDiff, Int.reduceLE, Int.reduceLT, Int.reduceEq, Int.reduceToNat, Int.reduceAdd, Int.reduceSub, Int.reduceMul, Int.reduceNeg, reduceCtorEq, Option.bind_some, Option.map_some, List.length_cons, List.length_nil, vcM, List.getElem?_toArray, List.getElem?_cons_zero, List.getElem?_cons_succ, h2, h3]
  (refine W_at c29_ok ?_; refine ⟨_, rfl, ?_⟩; simp (disch := first | omega | assumption | rfl | (simp only [vcS] <;> omega) | fail) only [↓ptV_l, ↓vcA, vcB, ↓vcD, vcE, ↓reduceIte, Nat.reduceEqDiff, Nat.reduceAdd, Nat.reduceMul, Nat.reduceLeDiff, Int.reduceLE, Int.reduceLT, Int.reduceEq, Int.reduceToNat, Int.reduceAdd, Int.reduceSub, Int.reduceMul, Int.reduceNeg, reduceCtorEq, Option.bind_some, Option.map_some, List.length_cons, List.length_nil, vcM, List.getElem?_toArray, List.getElem?_cons_zero, List.getElem?_cons_succ, Ret_returned])
theorem room_ok (w : World) (jp p r : Nat) (sv rv qv : Value) (J : JS) (d : DS) (h : JAt w jp p sv rv J) (hd : DAt w p r qv d) (hk : d.Ok) (hn : 16 ≤ d.n) :
    Calls Try.prog 35 #[.pointer (some ⟨jp, 0, none⟩)] w (Ret fun u w' => u = .int .i64 (64 * secs d.n : Nat) ∧ w' = w) := by
  refine calls_of_cfg c35_ok (Nat.le_of_ble_eq_true rfl) ?_
  simp only [argE_nil, argE_cons, Nat.reduceAdd, Nat.zero_add]
  have hs := secs_b hk.n
  have h1 : IntKind.i64.wrap (((secs d.n : Nat) : Int) * 64) = ((64 * secs d.n : Nat) : Int) := by rw [wrap_i64 (by omega) (by omega)]; omega
  (refine W_at c35_ok ?_; refine ⟨_, rfl, ?_⟩; simp (disch := first | omega | assumption | rfl | (simp only [vcS] <;> omega) | fail) only [↓ptV_l, ↓vcA, vcB, ↓vcD, vcE, ↓reduceIte, Nat.reduceEqDiff, Nat.reduceAdd, Nat.reduceMul, Nat.reduceLeDiff, Int.reduceLE, Int.reduceLT, Int.reduceEq, Int.reduceToNat, Int.reduceAdd, Int.reduceSub, Int.reduceMul, Int.reduceNeg, reduceCtorEq, Option.bind_some, Option.map_some, List.length_cons, List.length_nil, vcM, List.getElem?_toArray, List.getElem?_cons_zero, List.getElem?_cons_succ])
  (refine W_at c35_ok ?_; refine ⟨_, rfl, ?_⟩; simp (disch := first | omega | assumption | rfl | (simp only [vcS] <;> omega) | fail) only [↓ptV_l, ↓vcA, vcB, ↓vcD, vcE, ↓reduceIte, Nat.reduceEqDiff, Nat.reduceAdd, Nat.reduceMul, Nat.reduceLeDiff, Int.reduceLE, Int.reduceLT, Int.reduceEq, Int.reduceToNat, Int.reduceAdd, Int.reduceSub, Int.reduceMul, Int.reduceNeg, reduceCtorEq, Option.bind_some, Option.map_some, List.length_cons, List.length_nil, vcM, List.getElem?_toArray, List.getElem?_cons_zero, List.getElem?_cons_succ])
  refine callV_ret (sectorsJ_ok w jp p r sv rv qv J d h hd hk hn) ?_
  rintro _ w1 ⟨rfl, hw⟩
  obtain rfl : w = w1 := hw.symm
  simp (disch := first | omega | assumption | rfl | (simp only [vcS] <;> omega) | fail) only [↓ptV_l, ↓vcA, vcB, ↓vcD, vcE, ↓reduceIte, Nat.reduceEqDiff, Nat.reduceAdd, Nat.reduceMul, Nat.reduceLeDiff, Int.reduceLE, Int.reduceLT, Int.reduceEq, Int.reduceToNat, Int.reduceAdd, Int.reduceSub, Int.reduceMul, Int.reduceNeg, reduceCtorEq, Option.bind_some, Option.map_some, List.length_cons, List.length_nil, vcM, List.getElem?_toArray, List.getElem?_cons_zero, List.getElem?_cons_succ, h1]
  (refine W_at c35_ok ?_; refine ⟨_, rfl, ?_⟩; simp (disch := first | omega | assumption | rfl | (simp only [vcS] <;> omega) | fail) only [↓ptV_l, ↓vcA, vcB, ↓vcD, vcE, ↓reduceIte, Nat.reduceEqDiff, Nat.reduceAdd, Nat.reduceMul, Nat.reduceLeDiff, Int.reduceLE, Int.reduceLT, Int.reduceEq, Int.reduceToNat, Int.reduceAdd, Int.reduceSub, Int.reduceMul, Int.reduceNeg, reduceCtorEq, Option.bind_some, Option.map_some, List.length_cons, List.length_nil, vcM, List.getElem?_toArray, List.getElem?_cons_zero, List.getElem?_cons_succ, Ret_returned])
def roomF (d : DS) (J : JS) : Int := max (-1) (min (((64 * secs d.n : Nat) : Int) - (J.pos : Nat) - 5 - 1) 65535)
theorem Room_ok (w : World) (jp p r : Nat) (sv rv qv : Value) (J : JS) (d : DS) (h : JAt w jp p sv rv J) (hd : DAt w p r qv d) (hk : d.Ok) (hn : 16 ≤ d.n) (hp : J.pos ≤ 1000000000) :
    Calls Try.prog 20 #[.pointer (some ⟨jp, 0, none⟩)] w (Ret fun u w' => u = .int .i64 (roomF d J) ∧ Ext w w') := by
  refine calls_of_cfg c20_ok (Nat.le_of_ble_eq_true rfl) ?_
  simp only [argE_nil, argE_cons, Nat.reduceAdd, Nat.zero_add]
  have hs := secs_b hk.n
  have ho := h.obj
  have h1 : IntKind.i64.wrap (((64 * secs d.n : Nat) : Int) - (J.pos : Nat)) = ((64 * secs d.n : Nat) : Int) - (J.pos : Nat) := wrap_i64 (by omega) (by omega)
  have h2 : IntKind.i64.wrap (((64 * secs d.n : Nat) : Int) - (J.pos : Nat) - 5) = ((64 * secs d.n : Nat) : Int) - (J.pos : Nat) - 5 := wrap_i64 (by omega) (by omega)
  have h3 : IntKind.i64.wrap (((64 * secs d.n : Nat) : Int) - (J.pos : Nat) - 5 - 1) = ((64 * secs d.n : Nat) : Int) - (J.pos : Nat) - 5 - 1 := wrap_i64 (by omega) (by omega)
  (refine W_at c20_ok ?_; refine ⟨_, rfl, ?_⟩; simp (disch := first | omega | assumption | rfl | (simp only [vcS] <;> omega) | fail) only [↓ptV_l, ↓vcA, vcB, ↓vcD, vcE, ↓reduceIte, Nat.reduceEqDiff, Nat.reduceAdd, Nat.reduceMul, Nat.reduceLeDiff, Int.reduceLE, Int.reduceLT, Int.reduceEq, Int.reduceToNat, Int.reduceAdd, Int.reduceSub, Int.reduceMul, Int.reduceNeg, reduceCtorEq, Option.bind_some, Option.map_some, List.length_cons, List.length_nil, vcM, List.getElem?_toArray, List.getElem?_cons_zero, List.getElem?_cons_succ])
  (refine W_at c20_ok ?_; refine ⟨_, rfl, ?_⟩; simp (disch := first | omega | assumption | rfl | (simp only [vcS] <;> omega) | fail) only [↓ptV_l, ↓vcA, vcB, ↓vcD, vcE, ↓reduceIte, Nat.reduceEqDiff, Nat.reduceAdd, Nat.reduceMul, Nat.reduceLeDiff, Int.reduceLE, Int.reduceLT, Int.reduceEq, Int.reduceToNat, Int.reduceAdd, Int.reduceSub, Int.reduceMul, Int.reduceNeg, reduceCtorEq, Option.bind_some, Option.map_some, List.length_cons, List.length_nil, vcM, List.getElem?_toArray, List.getElem?_cons_zero, List.getElem?_cons_succ, ho])
  have hE : Ext w w.drew := (Keep.refl _ w).drew
  refine callV_ret (room_ok w.drew jp p r sv rv qv J d (h.ext hE) (hd.ext hE) hk hn) ?_
  rintro _ w1 ⟨rfl, hw⟩
  obtain rfl : w.drew = w1 := hw.symm
  simp (disch := first | omega | assumption | rfl | (simp only [vcS] <;> omega) | fail) only [↓ptV_l, ↓vcA, vcB, ↓vcD, vcE, ↓reduceIte, Nat.reduceEqDiff, Nat.reduceAdd, Nat.reduceMul, Nat.reduceLeDiff, Int.reduceLE, Int.reduceLT, Int.reduceEq, Int.reduceToNat, Int.reduceAdd, Int.reduceSub, Int.reduceMul, Int.reduceNeg, reduceCtorEq, Option.bind_some, Option.map_some, List.length_cons, List.length_nil, vcM, List.getElem?_toArray, List.getElem?_cons_zero, List.getElem?_cons_succ, ho, h1, h2, h3]
  (refine W_at c20_ok ?_; refine ⟨_, rfl, ?_⟩; simp (disch := first | omega | assumption | rfl | (simp only [vcS] <;> omega) | fail) only [↓ptV_l, ↓vcA, vcB, ↓vcD, vcE, ↓reduceIte, Nat.reduceEqDiff, Nat.reduceAdd, Nat.reduceMul, Nat.reduceLeDiff, Int.reduceLE, Int.reduceLT, Int.reduceEq, Int.reduceToNat, Int.reduceAdd, Int.reduceSub, Int.reduceMul, Int.reduceNeg, reduceCtorEq, Option.bind_some, Option.map_some, List.length_cons, List.length_nil, vcM, List.getElem?_toArray, List.getElem?_cons_zero, List.getElem?_cons_succ, Ret_returned])
  exact ⟨rfl, hE⟩
theorem State_ok (w : World) (jp p : Nat) (sv rv : Value) (J : JS) (h : JAt w jp p sv rv J) (hl : J.state.length ≤ 1000000000) :
    Calls Try.prog 25 #[.pointer (some ⟨jp, 0, none⟩)] w (Ret fun u w' => New w w' u J.state) := by
  refine calls_of_cfg c25_ok (Nat.le_of_ble_eq_true rfl) ?_
  simp only [argE_nil, argE_cons, Nat.reduceAdd, Nat.zero_add]
  have ho := h.obj
  (refine W_at c25_ok ?_; refine ⟨_, rfl, ?_⟩; simp (disch := first | omega | assumption | rfl | (simp only [vcS] <;> omega) | fail) only [↓ptV_l, ↓vcA, vcB, ↓vcD, vcE, ↓reduceIte, Nat.reduceEqDiff, Nat.reduceAdd, Nat.reduceMul, Nat.reduceLeDiff, Int.reduceLE, Int.reduceLT, Int.reduceEq, Int.reduceToNat, Int.reduceAdd, Int.reduceSub, Int.reduceMul, Int.reduceNeg, reduceCtorEq, Option.bind_some, Option.map_some, List.length_cons, List.length_nil, vcM, List.getElem?_toArray, List.getElem?_cons_zero, List.getElem?_cons_succ])
  (refine W_at c25_ok ?_; refine ⟨_, rfl, ?_⟩; simp (disch := first | omega | assumption | rfl | (simp only [vcS] <;> omega) | fail) only [↓ptV_l, ↓vcA, vcB, ↓vcD, vcE, ↓reduceIte, Nat.reduceEqDiff, Nat.reduceAdd, Nat.reduceMul, Nat.reduceLeDiff, Int.reduceLE, Int.reduceLT, Int.reduceEq, Int.reduceToNat, Int.reduceAdd, Int.reduceSub, Int.reduceMul, Int.reduceNeg, reduceCtorEq, Option.bind_some, Option.map_some, List.length_cons, List.length_nil, vcM, List.getElem?_toArray, List.getElem?_cons_zero, List.getElem?_cons_succ, ho])
  refine callV_ret (clone_ok w sv J.state h.state.1 hl) ?_
  rintro u w1 ⟨h1, h2, h3⟩
  first | (simp (disch := first | omega | assumption | rfl | (simp only [vcS] <;> omega) | fail) only [↓ptV_l, ↓vcA, vcB, ↓vcD, vcE, ↓reduceIte, Nat.reduceEqDiff, Nat.reduceAdd, Nat.reduceMul, Nat.reduceLeDiff, Int.reduceLE, Int.reduceLT, Int.reduceEq, Int.reduceToNat, Int.reduceAdd, Int.reduceSub, Int.reduceMul, Int.reduceNeg, reduceCtorEq, Option.bind_some, Option.map_some, List.length_cons, List.length_nil, vcM, List.getElem?_toArray, List.getElem?_cons_zero, List.getElem?_cons_succ]) | skip
  (refine W_at c25_ok ?_; refine ⟨_, rfl, ?_⟩; simp (disch := first | omega | assumption | rfl | (simp only [vcS] <;> omega) | fail) only [↓ptV_l, ↓vcA, vcB, ↓vcD, vcE, ↓reduceIte, Nat.reduceEqDiff, Nat.reduceAdd, Nat.reduceMul, Nat.reduceLeDiff, Int.reduceLE, Int.reduceLT, Int.reduceEq, Int.reduceToNat, Int.reduceAdd, Int.reduceSub, Int.reduceMul, Int.reduceNeg, reduceCtorEq, Option.bind_some, Option.map_some, List.length_cons, List.length_nil, vcM, List.getElem?_toArray, List.getElem?_cons_zero, List.getElem?_cons_succ, Ret_returned])
  exact ⟨h1, h2, h3⟩
end Go.Proofs
