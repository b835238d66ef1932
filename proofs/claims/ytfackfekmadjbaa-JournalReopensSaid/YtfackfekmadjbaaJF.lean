/- The law JournalPlays: its walk. -/
import Derived.Test.YtfackfekmadjbaaJE
set_option linter.unusedSimpArgs false
set_option linter.unusedVariables false
set_option linter.constructorNameAsVariable false
namespace Go.Proofs
open Go.Vc
set_option maxRecDepth 10000

structure ActJ (w : World) (x : Array Value) (kind arm keep torn again : Int) (v : Value) (bs : List Int) : Prop where
  is : x = #[.int .i64 kind, .int .i64 arm, .int .i64 keep, .int .i64 torn, .int .i64 again, v]
  rd : Rd w v bs
  by' : byt bs
  arm : -9223372036854775808 ≤ arm ∧ arm ≤ 9223372036854775807
  keep : -9223372036854775808 ≤ keep ∧ keep ≤ 9223372036854775807
  torn : -9223372036854775808 ≤ torn ∧ torn ≤ 9223372036854775807
  again : -9223372036854775808 ≤ again ∧ again ≤ 9223372036854775807
structure ActsJ (w : World) (q : Option Addr) (n c : Nat) (xs : List (Array Value)) : Prop where
  len : xs.length = n
  mx : n ≤ maxLen
  rd : rdS w 6 (.slice q n c) = some (xs.flatMap Array.toList).toArray
  at' : ∀ x ∈ xs, ∃ kind arm keep torn again v bs, ActJ w x kind arm keep torn again v bs
theorem ActsJ.act {w w' : World} {q : Option Addr} {n c : Nat} {xs : List (Array Value)} (h : ActsJ w q n c xs) (k : Ext w w') {i : Nat} (hi : i < n) :
    ∃ b o kind arm keep torn again v bs, q = some ⟨b, o, none⟩ ∧ rdO w'.heap[b]? (o + i * 6) 6 = some #[.int .i64 kind, .int .i64 arm, .int .i64 keep, .int .i64 torn, .int .i64 again, v] ∧ ActJ w #[.int .i64 kind, .int .i64 arm, .int .i64 keep, .int .i64 torn, .int .i64 again, v] kind arm keep torn again v bs := by
  have hl := h.len
  have hr := rdS_keep h.rd k fun _ _ h => h
  have hs : ∀ x ∈ xs, x.size = 6 := fun x hx => by obtain ⟨_, _, _, _, _, _, _, e⟩ := h.at' x hx; rw [e.is]; rfl
  obtain ⟨b, o, hq, h1⟩ := rdS_at hr hl hs hi
  obtain ⟨kind, arm, keep, torn, again, v, bs, e⟩ := h.at' _ (List.getElem_mem (show i < xs.length by omega))
  have e2 := e.is
  rw [e2] at h1
  rw [e2] at e
  exact ⟨b, o, kind, arm, keep, torn, again, v, bs, hq, h1, e⟩
/-- Rows of bytes that may be written over. -/
def RowsO (m : Nat) (w : World) (u : Value) (n : Nat) : Prop := ∃ vs : List Value, vs.length = n ∧ OwnO w m 30 1 u (vs.map fun v => #[v]) ∧ ∀ v ∈ vs, OB m w v
theorem RowsN.ob {m : Nat} {w : World} {u : Value} {rs : List (List Int)} (h : RowsN m w u rs) : RowsO m w u rs.length := by
  obtain ⟨vs, h1, h2, h3⟩ := h
  exact ⟨vs, forall2_len h2, h1, h3⟩
theorem OB.at {m : Nat} {w : World} {v : Value} (h : OB m w v) : ∃ q l c, v = .slice q l c ∧ l ≤ 9223372036854775807 ∧ ∀ i < l, ∃ g x, q = some ⟨g, 0, none⟩ ∧ m ≤ g ∧ cellO w.heap[g]? i = some (.int .u8 x) ∧ wr1 w g i ∧ ∃ cc, w.heap[g]? = some (.cells cc 5 (0, 0)) := by
  obtain ⟨b, h1, h2⟩ := h
  obtain ⟨q, c, e, _⟩ := h1.rd.is
  have hmx := h1.rd.mx
  have hml : maxLen = 9223372036854775807 := rfl
  refine ⟨q, b.length, c, e, by omega, fun i hi => ?_⟩
  obtain ⟨g, c', e', hw, _⟩ := h1.set hi 0
  obtain ⟨b2, o, c2, e2, hc⟩ := h1.rd.at hi
  rw [e'] at e e2 h2 h1
  injection e with e3 e4 e5
  injection e2 with e6 e7 e8
  cases e6
  obtain ⟨cc, hcc⟩ := row_type h1 (g := g) rfl
  rw [Nat.zero_add] at hc
  exact ⟨g, _, e3.symm, h2 g rfl, hc, hw, cc, hcc⟩
theorem RowsO.poke {m : Nat} {w : World} {u : Value} {n : Nat} (h : RowsO m w u n) {g i : Nat} {x : Int} {c : Array Value} (hg : w.heap[g]? = some (.cells c 5 (0, 0))) : RowsO m (w.setCell ⟨g, i, none⟩ (.int .u8 x)) u n := by
  obtain ⟨vs, h1, h2, h3⟩ := h
  refine ⟨vs, h1, h2.keep ((Keep.refl _ w).setCell (S := fun k => k = g) _ fun _ => rfl) fun k hk e => ?_, fun v hv => (h3 v hv).poke g i x⟩
  subst e
  obtain ⟨c', hc⟩ := (h2.blk hk).2
  rw [hg] at hc; cases hc
theorem JSys.tat {B : Nat → Prop} {base : Nat} {w w' : World} {jp p r : Nat} {sv rv qv : Value} {J : JS} {d : DS} (h : JSys base w jp p r sv rv qv J d) (k : Keep (JB jp p r rv qv) w w') {s2 r2 : Value} {S : List Int} {R : List (List Int)} (t : TAt B w s2 r2 S R) (hB : ∀ g, B g → ¬ blk rv g) : TAt B w' s2 r2 S R := by
  have n5 : ∀ g c, w.heap[g]? = some (.cells c 5 (0, 0)) → ¬ JB jp p r rv qv g := fun g c hg hb => by
    rcases hb with rfl | hb | hb
    · rw [h.j.obj] at hg; cases hg
    · exact h.d.nob hg (by decide) (by decide) hb
    · obtain ⟨c', hc⟩ := h.j.recs.blk hb
      rw [hg] at hc; cases hc
  have n30 : ∀ g c, w.heap[g]? = some (.cells c 30 (0, 0)) → B g → ¬ JB jp p r rv qv g := fun g c hg hg2 hb => by
    rcases hb with rfl | hb | hb
    · rw [h.j.obj] at hg; cases hg
    · exact h.d.nob hg (by decide) (by decide) hb
    · exact hB g hg2 hb
  obtain ⟨vs, h1, h2, h3⟩ := t.rows
  exact ⟨t.st.keep k n5, t.stB, t.rvB, vs, h1.keep k fun g hg => (h1.blk hg).2.elim fun c hc => n30 g c hc (t.rvB g hg), forall2_keep h2 fun v b hb => hb.keep k n5, h3⟩
theorem JSys.nb {base : Nat} {w : World} {jp p r : Nat} {sv rv qv : Value} {J : JS} {d : DS} (h : JSys base w jp p r sv rv qv J d) {g : Nat} {c : Array Value} {t : TypeId} {fr : Nat × Nat} (hg : w.heap[g]? = some (.cells c t fr)) (h1 : t ≠ 62) (h2 : t ≠ 58) (h3 : t ≠ 77) (h4 : t ≠ 30) : ¬ JB jp p r rv qv g := fun hb => by
  rcases hb with rfl | hb | hb
  · rw [h.j.obj] at hg; cases hg; exact h1 rfl
  · rcases h.d.kind hb with ⟨es, c2, e⟩ | ⟨c2, t2, e, ht⟩
    · rw [hg] at e; cases e
    · rw [hg] at e
      cases e
      rcases ht with h | h
      · exact h2 h
      · exact h3 h
  · obtain ⟨c', hc⟩ := h.j.recs.blk hb
    rw [hg] at hc; cases hc; exact h4 rfl
theorem JSys.lt {base : Nat} {w : World} {jp p r : Nat} {sv rv qv : Value} {J : JS} {d : DS} (h : JSys base w jp p r sv rv qv J d) {g : Nat} (hg : JB jp p r rv qv g) : g < w.heap.size := by
  rcases hg with rfl | hb | hb
  · exact h.j.lt
  · rcases h.d.kind hb with ⟨es, c2, e⟩ | ⟨c2, t2, e, ht⟩
    · exact lt_of_heap e
    · exact lt_of_heap e
  · obtain ⟨c', hc⟩ := h.j.recs.blk hb
    exact lt_of_heap hc
/-- Sizes that suffice. -/
structure Small (J : JS) (j m : Nat) : Prop where
  pos : J.pos ≤ (m + 5) * j
  st : J.state.length ≤ m
  recs : J.recs.length ≤ j
  len : ∀ b ∈ J.recs, b.length ≤ m
theorem Small.app {J : JS} {j m : Nat} (h : Small J j m) {b : List Int} (hb : b.length ≤ m) : Small (J.app b) (j + 1) m := by
  refine ⟨?_, h.st, ?_, fun c hc => ?_⟩
  · show J.pos + 5 + b.length ≤ _
    have := h.pos
    rw [Nat.mul_add]; omega
  · show (J.recs ++ [b]).length ≤ _
    rw [List.length_append, List.length_singleton]; have := h.recs; omega
  · rcases List.mem_append.1 hc with hc | hc
    · exact h.len c hc
    · rw [List.mem_singleton.1 hc]; exact hb
theorem Small.cmp {J : JS} {j m : Nat} {b : List Int} (hb : b.length ≤ m) : Small (J.cmp b) (j + 1) m := by
  refine ⟨?_, hb, Nat.zero_le _, fun c hc => by cases hc⟩
  show 5 + b.length ≤ _
  rw [Nat.mul_add]; omega
theorem Small.next {J : JS} {j m : Nat} (h : Small J j m) : Small J (j + 1) m := ⟨by have := h.pos; rw [Nat.mul_add]; omega, h.st, by have := h.recs; omega, h.len⟩
theorem Good.byts {d : DS} {J : JS} (h : Good d J) : byt J.state ∧ ∀ b ∈ J.recs, byt b := by
  have hb := h.inv.bys
  unfold allR at hb
  by_cases h0 : J.head = 0
  · rw [if_pos h0] at hb
    exact ⟨by rw [h.inv.st h0]; exact byt_nil, hb⟩
  · rw [if_neg h0] at hb
    exact ⟨hb _ (by simp), fun b h => hb b (by simp [h])⟩
theorem rdO_ext {w w' : World} (k : Ext w w') {g o n : Nat} {c : Array Value} (h : rdO w.heap[g]? o n = some c) : rdO w'.heap[g]? o n = some c := by
  cases hg : w.heap[g]? with
  | none => rw [hg] at h; cases h
  | some x => rw [k.at hg (fun h => h), ← hg]; exact h
theorem TAt.box {B : Nat → Prop} {w w' : World} {p6 : Nat} {s2 r2 : Value} {S : List Int} {R : List (List Int)} {c : Array Value} (t : TAt B w s2 r2 S R) (h6 : w.heap[p6]? = some (.cells c 33 (0, 0))) (k : Keep (fun x => x = p6) w w') : TAt B w' s2 r2 S R := by
  have n6 : ∀ g c t, w.heap[g]? = some (.cells c t (0, 0)) → t ≠ 33 → ¬ g = p6 := fun g c t hg ht e => by rw [e, h6] at hg; cases hg; exact ht rfl
  obtain ⟨vs, h1, h2, h3⟩ := t.rows
  exact ⟨t.st.keep k fun g c hg => n6 g c _ hg (by decide), t.stB, t.rvB, vs, h1.keep k fun g hg => (h1.blk hg).2.elim fun c hc => n6 g c _ hc (by decide), forall2_keep h2 fun v b hb => hb.keep k fun g c hg => n6 g c _ hg (by decide), h3⟩
theorem JSys.box {base : Nat} {w w' : World} {jp p r p6 : Nat} {sv rv qv : Value} {J : JS} {d : DS} {c : Array Value} (h : JSys base w jp p r sv rv qv J d) (h6 : w.heap[p6]? = some (.cells c 33 (0, 0))) (k : Keep (fun x => x = p6) w w') : JSys base w' jp p r sv rv qv J d := by
  have n6 : ∀ g c t, w.heap[g]? = some (.cells c t (0, 0)) → t ≠ 33 → ¬ g = p6 := fun g c t hg ht e => by rw [e, h6] at hg; cases hg; exact ht rfl
  exact ⟨h.j.keep k (n6 _ _ _ h.j.obj (by decide)) (fun g c hg => n6 g c _ hg (by decide)) (fun g c hg => n6 g c _ hg (by decide)), h.d.keep k fun g hg e => by
    subst e
    exact h.nb h6 (by decide) (by decide) (by decide) (by decide) (.inr (.inl hg)), h.base⟩
theorem JIn.box {B : Nat → Prop} {w w' : World} {jp p6 : Nat} {c : Array Value} (h : JIn B w jp) (h6 : w.heap[p6]? = some (.cells c 33 (0, 0))) (k : Keep (fun x => x = p6) w w') : JIn B w' jp := by
  have n6 : ∀ g c t, w.heap[g]? = some (.cells c t (0, 0)) → t ≠ 33 → ¬ g = p6 := fun g c t hg ht e => by rw [e, h6] at hg; cases hg; exact ht rfl
  obtain ⟨_, _, _, _, _, ho, _⟩ := id h
  exact h.keep k (n6 _ _ _ ho (by decide)) fun g c hg => n6 g c _ hg (by decide)
theorem Spare_x {w : World} {g : Nat} {b : List Int} (h : Own1 w (.slice (some ⟨g, 0, none⟩) (b.length + 9) (b.length + 9)) (spareF b)) : ByX w (.slice (some ⟨g, 0, none⟩) b.length (b.length + 9)) b := by
  refine ⟨?_, fun g' hg => ?_⟩
  · have hc := h.rd.cut (l := 0) (j := b.length) (by omega) (by omega)
    rw [advA_0, Nat.sub_zero, Nat.sub_zero, List.drop_zero] at hc
    have e : (spareF b).take b.length = b := by
      unfold spareF
      exact List.take_left' rfl
    rwa [e] at hc
  · have e : g = g' := Option.some.inj hg
    subst e
    obtain ⟨c, hc⟩ := row_type h (g := g) rfl
    exact ⟨c, _, hc⟩
set_option maxHeartbeats 1600000 in
theorem plays_ok (w : World) (q : Option Addr) (nn c : Nat) (xs : List (Array Value)) (hA : ActsJ w q nn c xs) :
    Calls Try.prog 3 #[.slice q nn c] w (Ret fun u w' => u = .bool true ∧ Ext w w') := by
  refine calls_of_cfg c3_ok (Nat.le_of_ble_eq_true rfl) ?_
  simp only [argE_nil, argE_cons, Nat.reduceAdd, Nat.zero_add]
  (refine W_at c3_ok ?_; refine ⟨_, rfl, ?_⟩; simp (disch := first | omega | assumption | rfl | (simp only [vcS] <;> omega) | fail) only [↓ptV_l, ↓vcA, vcB, ↓vcD, vcE, ↓reduceIte, Nat.reduceEqDiff, Nat.reduceAdd, Nat.reduceMul, Nat.reduceLeDiff, Int.reduceLE, Int.reduceLT, Int.reduceEq, Int.reduceToNat, Int.reduceAdd, Int.reduceSub, Int.reduceMul, Int.reduceNeg, reduceCtorEq, Option.bind_some, Option.map_some, List.length_cons, List.length_nil, vcM, List.getElem?_toArray, List.getElem?_cons_zero, List.getElem?_cons_succ])
  (refine W_at c3_ok ?_; refine ⟨_, rfl, ?_⟩; simp (disch := first | omega | assumption | rfl | (simp only [vcS] <;> omega) | fail) only [↓ptV_l, ↓vcA, vcB, ↓vcD, vcE, ↓reduceIte, Nat.reduceEqDiff, Nat.reduceAdd, Nat.reduceMul, Nat.reduceLeDiff, Int.reduceLE, Int.reduceLT, Int.reduceEq, Int.reduceToNat, Int.reduceAdd, Int.reduceSub, Int.reduceMul, Int.reduceNeg, reduceCtorEq, Option.bind_some, Option.map_some, List.length_cons, List.length_nil, vcM, List.getElem?_toArray, List.getElem?_cons_zero, List.getElem?_cons_succ])
  refine callV_ret (awake_ok w) ?_
  rintro _ w1 ⟨rfl, hE1⟩
  first | (simp (disch := first | omega | assumption | rfl | (simp only [vcS] <;> omega) | fail) only [↓ptV_l, ↓vcA, vcB, ↓vcD, vcE, ↓reduceIte, Nat.reduceEqDiff, Nat.reduceAdd, Nat.reduceMul, Nat.reduceLeDiff, Int.reduceLE, Int.reduceLT, Int.reduceEq, Int.reduceToNat, Int.reduceAdd, Int.reduceSub, Int.reduceMul, Int.reduceNeg, reduceCtorEq, Option.bind_some, Option.map_some, List.length_cons, List.length_nil, vcM, List.getElem?_toArray, List.getElem?_cons_zero, List.getElem?_cons_succ]) | skip
  (refine W_at c3_ok ?_; refine ⟨_, rfl, ?_⟩; simp (disch := first | omega | assumption | rfl | (simp only [vcS] <;> omega) | fail) only [↓ptV_l, ↓vcA, vcB, ↓vcD, vcE, ↓reduceIte, Nat.reduceEqDiff, Nat.reduceAdd, Nat.reduceMul, Nat.reduceLeDiff, Int.reduceLE, Int.reduceLT, Int.reduceEq, Int.reduceToNat, Int.reduceAdd, Int.reduceSub, Int.reduceMul, Int.reduceNeg, reduceCtorEq, Option.bind_some, Option.map_some, List.length_cons, List.length_nil, vcM, List.getElem?_toArray, List.getElem?_cons_zero, List.getElem?_cons_succ])
  (refine W_at c3_ok ?_; refine ⟨_, rfl, ?_⟩; simp (disch := first | omega | assumption | rfl | (simp only [vcS] <;> omega) | fail) only [↓ptV_l, ↓vcA, vcB, ↓vcD, vcE, ↓reduceIte, Nat.reduceEqDiff, Nat.reduceAdd, Nat.reduceMul, Nat.reduceLeDiff, Int.reduceLE, Int.reduceLT, Int.reduceEq, Int.reduceToNat, Int.reduceAdd, Int.reduceSub, Int.reduceMul, Int.reduceNeg, reduceCtorEq, Option.bind_some, Option.map_some, List.length_cons, List.length_nil, vcM, List.getElem?_toArray, List.getElem?_cons_zero, List.getElem?_cons_succ])
  refine callV_ret (new_ok w1 2000) ?_
  rintro _ w2 ⟨p, r, rfl, hD2, hE2, hp2, hr2⟩
  have hG0 : Good (newD 2000) J0 := new_good (by omega)
  have hn0 : (newD 2000).n = 2000 := rfl
  have hl0 : (newD 2000).left = -1 := rfl
  generalize newD 2000 = d0 at hD2 hG0 hn0 hl0
  first | (simp (disch := first | omega | assumption | rfl | (simp only [vcS] <;> omega) | fail) only [↓ptV_l, ↓vcA, vcB, ↓vcD, vcE, ↓reduceIte, Nat.reduceEqDiff, Nat.reduceAdd, Nat.reduceMul, Nat.reduceLeDiff, Int.reduceLE, Int.reduceLT, Int.reduceEq, Int.reduceToNat, Int.reduceAdd, Int.reduceSub, Int.reduceMul, Int.reduceNeg, reduceCtorEq, Option.bind_some, Option.map_some, List.length_cons, List.length_nil, vcM, List.getElem?_toArray, List.getElem?_cons_zero, List.getElem?_cons_succ]) | skip
  (refine W_at c3_ok ?_; refine ⟨_, rfl, ?_⟩; simp (disch := first | omega | assumption | rfl | (simp only [vcS] <;> omega) | fail) only [↓ptV_l, ↓vcA, vcB, ↓vcD, vcE, ↓reduceIte, Nat.reduceEqDiff, Nat.reduceAdd, Nat.reduceMul, Nat.reduceLeDiff, Int.reduceLE, Int.reduceLT, Int.reduceEq, Int.reduceToNat, Int.reduceAdd, Int.reduceSub, Int.reduceMul, Int.reduceNeg, reduceCtorEq, Option.bind_some, Option.map_some, List.length_cons, List.length_nil, vcM, List.getElem?_toArray, List.getElem?_cons_zero, List.getElem?_cons_succ])
  refine callV_ret (open_ok' w2 p r _ d0 J0 hD2 hG0.inv hG0.queue hG0.alive) ?_
  intro u w3 hO
  have z1 := hE1.size
  obtain ⟨jp, sv, rv, rfl, hS3, hE3, _, _⟩ := OpenR.sys (base := w.heap.size) hD2 (hE1.ext hE2).size (fun g hg => by rcases hg with rfl | rfl | hg; omega; omega; cases hg) hO
  first | (simp (disch := first | omega | assumption | rfl | (simp only [vcS] <;> omega) | fail) only [↓ptV_l, ↓vcA, vcB, ↓vcD, vcE, ↓reduceIte, Nat.reduceEqDiff, Nat.reduceAdd, Nat.reduceMul, Nat.reduceLeDiff, Int.reduceLE, Int.reduceLT, Int.reduceEq, Int.reduceToNat, Int.reduceAdd, Int.reduceSub, Int.reduceMul, Int.reduceNeg, reduceCtorEq, Option.bind_some, Option.map_some, List.length_cons, List.length_nil, vcM, List.getElem?_toArray, List.getElem?_cons_zero, List.getElem?_cons_succ]) | skip
  (refine W_at c3_ok ?_; refine ⟨_, rfl, ?_⟩; simp (disch := first | omega | assumption | rfl | (simp only [vcS] <;> omega) | fail) only [↓ptV_l, ↓vcA, vcB, ↓vcD, vcE, ↓reduceIte, Nat.reduceEqDiff, Nat.reduceAdd, Nat.reduceMul, Nat.reduceLeDiff, Int.reduceLE, Int.reduceLT, Int.reduceEq, Int.reduceToNat, Int.reduceAdd, Int.reduceSub, Int.reduceMul, Int.reduceNeg, reduceCtorEq, Option.bind_some, Option.map_some, List.length_cons, List.length_nil, vcM, List.getElem?_toArray, List.getElem?_cons_zero, List.getElem?_cons_succ])
  (refine W_at c3_ok ?_; refine ⟨_, rfl, ?_⟩; simp (disch := first | omega | assumption | rfl | (simp only [vcS] <;> omega) | fail) only [↓ptV_l, ↓vcA, vcB, ↓vcD, vcE, ↓reduceIte, Nat.reduceEqDiff, Nat.reduceAdd, Nat.reduceMul, Nat.reduceLeDiff, Int.reduceLE, Int.reduceLT, Int.reduceEq, Int.reduceToNat, Int.reduceAdd, Int.reduceSub, Int.reduceMul, Int.reduceNeg, reduceCtorEq, Option.bind_some, Option.map_some, List.length_cons, List.length_nil, vcM, List.getElem?_toArray, List.getElem?_cons_zero, List.getElem?_cons_succ])
  (refine W_at c3_ok ?_; refine ⟨_, rfl, ?_⟩; simp (disch := first | omega | assumption | rfl | (simp only [vcS] <;> omega) | fail) only [↓ptV_l, ↓vcA, vcB, ↓vcD, vcE, ↓reduceIte, Nat.reduceEqDiff, Nat.reduceAdd, Nat.reduceMul, Nat.reduceLeDiff, Int.reduceLE, Int.reduceLT, Int.reduceEq, Int.reduceToNat, Int.reduceAdd, Int.reduceSub, Int.reduceMul, Int.reduceNeg, reduceCtorEq, Option.bind_some, Option.map_some, List.length_cons, List.length_nil, vcM, List.getElem?_toArray, List.getElem?_cons_zero, List.getElem?_cons_succ])
  (refine W_at c3_ok ?_; refine ⟨_, rfl, ?_⟩; simp (disch := first | omega | assumption | rfl | (simp only [vcS] <;> omega) | fail) only [↓ptV_l, ↓vcA, vcB, ↓vcD, vcE, ↓reduceIte, Nat.reduceEqDiff, Nat.reduceAdd, Nat.reduceMul, Nat.reduceLeDiff, Int.reduceLE, Int.reduceLT, Int.reduceEq, Int.reduceToNat, Int.reduceAdd, Int.reduceSub, Int.reduceMul, Int.reduceNeg, reduceCtorEq, Option.bind_some, Option.map_some, List.length_cons, List.length_nil, vcM, List.getElem?_toArray, List.getElem?_cons_zero, List.getElem?_cons_succ])
  have hE4 : Ext w3 (w3.alloc (.cells (zc [(2, .slice none 0 0)]) 33)) := (Keep.refl _ w3).alloc _
  have hp6 : (w3.alloc (.cells (zc [(2, .slice none 0 0)]) 33)).heap[w3.heap.size]? = some (.cells #[.slice none 0 0, .slice none 0 0] 33 (0, 0)) := heap_new _ _ _ rfl
  have hp6b : w.heap.size ≤ w3.heap.size := ((hE1.ext hE2).ext hE3).size
  have hEE4 : Ext w (w3.alloc (.cells (zc [(2, .slice none 0 0)]) 33)) := ((hE1.ext hE2).ext hE3).ext hE4
  have hS4 := hS3.ext hE4
  generalize World.alloc _ _ = w4 at hE4 hp6 hEE4 hS4 ⊢
  generalize w3.heap.size = p6 at hp6 hp6b ⊢
  have L : ∀ (k j : Nat) (wj : World) (jp : Nat) (sv rv qv sw rw : Value) (J : JS) (d : DS), k + j = 30 → JSys w.heap.size wj jp p r sv rv qv J d → Good d J → d.left = -1 → d.n = 2000 → Small J j 400 →
      TAt (fun g => ¬ blk rv g) wj sw rw J.state J.recs → wj.heap[p6]? = some (.cells #[sw, rw] 33 (0, 0)) → Ext w wj →
      W Try.prog (Ret fun u w' => u = .bool true ∧ Ext w w') 3 40 [(0, .slice q nn c), (3, .pointer (some ⟨p, 0, none⟩)), (4, .pointer (some ⟨jp, 0, none⟩)), (6, .pointer (some ⟨p6, 0, none⟩)), (7, .int .i64 (j : Nat))] wj := by
    intro k
    induction k with
    | zero =>
      intro j wj jp sv rv qv sw rw J d hj hS hG hl hn hsm hT h6 hE
      have c2 : ¬ ((j : Nat) : Int) < 30 := by omega
      by_cases c1 : ((j : Nat) : Int) < (nn : Nat)
      · (refine W_at c3_ok ?_; refine ⟨_, rfl, ?_⟩; simp (disch := first | omega | assumption | rfl | (simp only [vcS] <;> omega) | fail) only [↓ptV_l, ↓vcA, vcB, ↓vcD, vcE, ↓reduceIte, Nat.reduceEqDiff, Nat.reduceAdd, Nat.reduceMul, Nat.reduceLeDiff, Int.reduceLE, Int.reduceLT, Int.reduceEq, Int.reduceToNat, Int.reduceAdd, Int.reduceSub, Int.reduceMul, Int.reduceNeg, reduceCtorEq, Option.bind_some, Option.map_some, List.length_cons, List.length_nil, vcM, List.getElem?_toArray, List.getElem?_cons_zero, List.getElem?_cons_succ, c1, c2])
        (refine W_at c3_ok ?_; refine ⟨_, rfl, ?_⟩; simp (disch := first | omega | assumption | rfl | (simp only [vcS] <;> omega) | fail) only [↓ptV_l, ↓vcA, vcB, ↓vcD, vcE, ↓reduceIte, Nat.reduceEqDiff, Nat.reduceAdd, Nat.reduceMul, Nat.reduceLeDiff, Int.reduceLE, Int.reduceLT, Int.reduceEq, Int.reduceToNat, Int.reduceAdd, Int.reduceSub, Int.reduceMul, Int.reduceNeg, reduceCtorEq, Option.bind_some, Option.map_some, List.length_cons, List.length_nil, vcM, List.getElem?_toArray, List.getElem?_cons_zero, List.getElem?_cons_succ])
        (refine W_at c3_ok ?_; refine ⟨_, rfl, ?_⟩; simp (disch := first | omega | assumption | rfl | (simp only [vcS] <;> omega) | fail) only [↓ptV_l, ↓vcA, vcB, ↓vcD, vcE, ↓reduceIte, Nat.reduceEqDiff, Nat.reduceAdd, Nat.reduceMul, Nat.reduceLeDiff, Int.reduceLE, Int.reduceLT, Int.reduceEq, Int.reduceToNat, Int.reduceAdd, Int.reduceSub, Int.reduceMul, Int.reduceNeg, reduceCtorEq, Option.bind_some, Option.map_some, List.length_cons, List.length_nil, vcM, List.getElem?_toArray, List.getElem?_cons_zero, List.getElem?_cons_succ])
        (refine W_at c3_ok ?_; refine ⟨_, rfl, ?_⟩; simp (disch := first | omega | assumption | rfl | (simp only [vcS] <;> omega) | fail) only [↓ptV_l, ↓vcA, vcB, ↓vcD, vcE, ↓reduceIte, Nat.reduceEqDiff, Nat.reduceAdd, Nat.reduceMul, Nat.reduceLeDiff, Int.reduceLE, Int.reduceLT, Int.reduceEq, Int.reduceToNat, Int.reduceAdd, Int.reduceSub, Int.reduceMul, Int.reduceNeg, reduceCtorEq, Option.bind_some, Option.map_some, List.length_cons, List.length_nil, vcM, List.getElem?_toArray, List.getElem?_cons_zero, List.getElem?_cons_succ, Ret_returned])
        exact hE
      · (refine W_at c3_ok ?_; refine ⟨_, rfl, ?_⟩; simp (disch := first | omega | assumption | rfl | (simp only [vcS] <;> omega) | fail) only [↓ptV_l, ↓vcA, vcB, ↓vcD, vcE, ↓reduceIte, Nat.reduceEqDiff, Nat.reduceAdd, Nat.reduceMul, Nat.reduceLeDiff, Int.reduceLE, Int.reduceLT, Int.reduceEq, Int.reduceToNat, Int.reduceAdd, Int.reduceSub, Int.reduceMul, Int.reduceNeg, reduceCtorEq, Option.bind_some, Option.map_some, List.length_cons, List.length_nil, vcM, List.getElem?_toArray, List.getElem?_cons_zero, List.getElem?_cons_succ, c1])
        (refine W_at c3_ok ?_; refine ⟨_, rfl, ?_⟩; simp (disch := first | omega | assumption | rfl | (simp only [vcS] <;> omega) | fail) only [↓ptV_l, ↓vcA, vcB, ↓vcD, vcE, ↓reduceIte, Nat.reduceEqDiff, Nat.reduceAdd, Nat.reduceMul, Nat.reduceLeDiff, Int.reduceLE, Int.reduceLT, Int.reduceEq, Int.reduceToNat, Int.reduceAdd, Int.reduceSub, Int.reduceMul, Int.reduceNeg, reduceCtorEq, Option.bind_some, Option.map_some, List.length_cons, List.length_nil, vcM, List.getElem?_toArray, List.getElem?_cons_zero, List.getElem?_cons_succ])
        (refine W_at c3_ok ?_; refine ⟨_, rfl, ?_⟩; simp (disch := first | omega | assumption | rfl | (simp only [vcS] <;> omega) | fail) only [↓ptV_l, ↓vcA, vcB, ↓vcD, vcE, ↓reduceIte, Nat.reduceEqDiff, Nat.reduceAdd, Nat.reduceMul, Nat.reduceLeDiff, Int.reduceLE, Int.reduceLT, Int.reduceEq, Int.reduceToNat, Int.reduceAdd, Int.reduceSub, Int.reduceMul, Int.reduceNeg, reduceCtorEq, Option.bind_some, Option.map_some, List.length_cons, List.length_nil, vcM, List.getElem?_toArray, List.getElem?_cons_zero, List.getElem?_cons_succ])
        (refine W_at c3_ok ?_; refine ⟨_, rfl, ?_⟩; simp (disch := first | omega | assumption | rfl | (simp only [vcS] <;> omega) | fail) only [↓ptV_l, ↓vcA, vcB, ↓vcD, vcE, ↓reduceIte, Nat.reduceEqDiff, Nat.reduceAdd, Nat.reduceMul, Nat.reduceLeDiff, Int.reduceLE, Int.reduceLT, Int.reduceEq, Int.reduceToNat, Int.reduceAdd, Int.reduceSub, Int.reduceMul, Int.reduceNeg, reduceCtorEq, Option.bind_some, Option.map_some, List.length_cons, List.length_nil, vcM, List.getElem?_toArray, List.getElem?_cons_zero, List.getElem?_cons_succ, Ret_returned])
        exact hE
    | succ k ih =>
      intro j wj jp sv rv qv sw rw J d hj hS hG hl hn hsm hT h6 hE
      have c2 : ((j : Nat) : Int) < 30 := by omega
      by_cases c1 : ((j : Nat) : Int) < (nn : Nat)
      case neg =>
        (refine W_at c3_ok ?_; refine ⟨_, rfl, ?_⟩; simp (disch := first | omega | assumption | rfl | (simp only [vcS] <;> omega) | fail) only [↓ptV_l, ↓vcA, vcB, ↓vcD, vcE, ↓reduceIte, Nat.reduceEqDiff, Nat.reduceAdd, Nat.reduceMul, Nat.reduceLeDiff, Int.reduceLE, Int.reduceLT, Int.reduceEq, Int.reduceToNat, Int.reduceAdd, Int.reduceSub, Int.reduceMul, Int.reduceNeg, reduceCtorEq, Option.bind_some, Option.map_some, List.length_cons, List.length_nil, vcM, List.getElem?_toArray, List.getElem?_cons_zero, List.getElem?_cons_succ, c1])
        (refine W_at c3_ok ?_; refine ⟨_, rfl, ?_⟩; simp (disch := first | omega | assumption | rfl | (simp only [vcS] <;> omega) | fail) only [↓ptV_l, ↓vcA, vcB, ↓vcD, vcE, ↓reduceIte, Nat.reduceEqDiff, Nat.reduceAdd, Nat.reduceMul, Nat.reduceLeDiff, Int.reduceLE, Int.reduceLT, Int.reduceEq, Int.reduceToNat, Int.reduceAdd, Int.reduceSub, Int.reduceMul, Int.reduceNeg, reduceCtorEq, Option.bind_some, Option.map_some, List.length_cons, List.length_nil, vcM, List.getElem?_toArray, List.getElem?_cons_zero, List.getElem?_cons_succ])
        (refine W_at c3_ok ?_; refine ⟨_, rfl, ?_⟩; simp (disch := first | omega | assumption | rfl | (simp only [vcS] <;> omega) | fail) only [↓ptV_l, ↓vcA, vcB, ↓vcD, vcE, ↓reduceIte, Nat.reduceEqDiff, Nat.reduceAdd, Nat.reduceMul, Nat.reduceLeDiff, Int.reduceLE, Int.reduceLT, Int.reduceEq, Int.reduceToNat, Int.reduceAdd, Int.reduceSub, Int.reduceMul, Int.reduceNeg, reduceCtorEq, Option.bind_some, Option.map_some, List.length_cons, List.length_nil, vcM, List.getElem?_toArray, List.getElem?_cons_zero, List.getElem?_cons_succ])
        (refine W_at c3_ok ?_; refine ⟨_, rfl, ?_⟩; simp (disch := first | omega | assumption | rfl | (simp only [vcS] <;> omega) | fail) only [↓ptV_l, ↓vcA, vcB, ↓vcD, vcE, ↓reduceIte, Nat.reduceEqDiff, Nat.reduceAdd, Nat.reduceMul, Nat.reduceLeDiff, Int.reduceLE, Int.reduceLT, Int.reduceEq, Int.reduceToNat, Int.reduceAdd, Int.reduceSub, Int.reduceMul, Int.reduceNeg, reduceCtorEq, Option.bind_some, Option.map_some, List.length_cons, List.length_nil, vcM, List.getElem?_toArray, List.getElem?_cons_zero, List.getElem?_cons_succ, Ret_returned])
        exact hE
      have hwj : IntKind.i64.wrap (((j : Nat) : Int) + 1) = ((j + 1 : Nat) : Int) := wrap_i64 (by omega) (by omega)
      obtain ⟨gb, go, kind, arm, kp, torn, again, v, bs, hq, hr, hact⟩ := hA.act hE (i := j) (by omega)
      have cw : 0 ≤ ((j : Nat) : Int) ∧ ((j : Nat) : Int) < (nn : Nat) := by omega
      subst hq
      have hbl : (bs.take 400).length ≤ 400 := by rw [List.length_take]; omega
      have hbb : byt (bs.take 400) := byt_take hact.by' _
      generalize hb' : bs.take 400 = b at hbl hbb
      -- behind an act
      have rest : ∀ (wk : World) (jp : Nat) (sv rv qv sw rw vb : Value) (J : JS) (d : DS) (g : Nat), JSys w.heap.size wk jp p r sv rv qv J d → Good d J → d.left = -1 → d.n = 2000 → Small J (j + 1) 400 →
          TAt (fun x => ¬ blk rv x ∧ x ≠ g) wk sw rw J.state J.recs → JIn (fun x => x ≠ g) wk jp → (∀ x, JB jp p r rv qv x → x ≠ g) → p6 ≠ g → w.heap.size ≤ g → wk.heap[p6]? = some (.cells #[sw, rw] 33 (0, 0)) → Ext w wk → Rd wk vb b →
          Own1 wk (.slice (some ⟨g, 0, none⟩) (b.length + 9) (b.length + 9)) (spareF b) →
          W Try.prog (Ret fun u w' => u = .bool true ∧ Ext w w') 3 26 [(0, .slice (some ⟨gb, go, none⟩) nn c), (3, .pointer (some ⟨p, 0, none⟩)), (4, .pointer (some ⟨jp, 0, none⟩)), (5, .int .i64 0), (6, .pointer (some ⟨p6, 0, none⟩)), (7, .int .i64 (j : Nat)), (8, vb), (9, .slice (some ⟨g, 0, none⟩) b.length (b.length + 9)), (10, .slice (some ⟨g, 0, none⟩) (b.length + 9) (b.length + 9))] wk := by
        intro wk jp sv rv qv sw rw vb J d g hS hG hl hn hsm hT hJi hgB hg6 hgw h6 hE hvb hall
        have hby := hG.byts
        have hsmr := hsm.recs
        have hsms := hsm.st
        (refine W_at c3_ok ?_; refine ⟨_, rfl, ?_⟩; simp (disch := first | omega | assumption | rfl | (simp only [vcS] <;> omega) | fail) only [↓vcL1, ptS2_eq, ↓vcA, vcB, ↓vcD, vcE, ↓reduceIte, Nat.reduceEqDiff, Nat.reduceAdd, Nat.reduceMul, Nat.reduceLeDiff, Int.reduceLE, Int.reduceLT, Int.reduceEq, Int.reduceToNat, Int.reduceAdd, Int.reduceSub, Int.reduceMul, Int.reduceNeg, reduceCtorEq, Option.bind_some, Option.map_some, List.length_cons, List.length_nil, vcM, List.getElem?_toArray, List.getElem?_cons_zero, List.getElem?_cons_succ, eqP_pn])
        refine callV_ret (kept_ok wk.drew _ vb b (hall.rd.ext (show Ext wk wk.drew from (Keep.refl _ wk).drew)) (hvb.ext (show Ext wk wk.drew from (Keep.refl _ wk).drew)) (by omega)) ?_
        rintro _ wl ⟨rfl, hEl⟩
        have hEl' : Ext wk wl := (show Ext wk wk.drew from (Keep.refl _ wk).drew).ext hEl
        have h6l := hEl'.at h6 (fun h => h)
        have hok6 : okO (some (Obj.cells #[sw, rw] 33 (0, 0))) 0 2 = True := by simp [okO]
        have hx2 : (#[sw, rw] : Array Value).extract 0 (0 + 2) = #[sw, rw] := rfl
        have s2 : (#[sw, rw] : Array Value).size = 2 := rfl
        simp (disch := first | omega | assumption | rfl | (simp only [vcS] <;> omega) | fail) only [↓vcL2, ptS1_eq, ↓vcA, vcB, ↓vcD, vcE, ↓reduceIte, Nat.reduceEqDiff, Nat.reduceAdd, Nat.reduceMul, Nat.reduceLeDiff, Int.reduceLE, Int.reduceLT, Int.reduceEq, Int.reduceToNat, Int.reduceAdd, Int.reduceSub, Int.reduceMul, Int.reduceNeg, reduceCtorEq, Option.bind_some, Option.map_some, List.length_cons, List.length_nil, vcM, List.getElem?_toArray, List.getElem?_cons_zero, List.getElem?_cons_succ, h6l, hok6, hx2, s2]
        have hSl := hS.ext hEl'
        refine callV_ret (told_ok wl jp p sv rv J hSl.j (by omega) (by omega) (fun b hb => Nat.le_trans (hsm.len b hb) (by omega))) ?_
        rintro _ wm ⟨s1, r1, rfl, hT1, hEm⟩
        have h6m := hEm.at h6l (fun h => h)
        simp (disch := first | omega | assumption | rfl | (simp only [vcS] <;> omega) | fail) only [↓vcL1, ptS2_eq, ↓vcA, vcB, ↓vcD, vcE, ↓reduceIte, Nat.reduceEqDiff, Nat.reduceAdd, Nat.reduceMul, Nat.reduceLeDiff, Int.reduceLE, Int.reduceLT, Int.reduceEq, Int.reduceToNat, Int.reduceAdd, Int.reduceSub, Int.reduceMul, Int.reduceNeg, reduceCtorEq, Option.bind_some, Option.map_some, List.length_cons, List.length_nil, vcM, List.getElem?_toArray, List.getElem?_cons_zero, List.getElem?_cons_succ, h6m, hok6, hx2, s2]
        have hTm := hT.ext (hEl'.ext hEm)
        refine callV_ret (rsame_ok wm _ _ s1 r1 sw rw J.state J.state J.recs J.recs hT1 hTm hby.1 hby.1 hby.2 hby.2 (by omega)) ?_
        rintro _ wn ⟨rfl, hEn⟩
        rw [show decide (J.state = J.state ∧ J.recs = J.recs) = true from decide_eq_true ⟨rfl, rfl⟩]
        have hEkn : Ext wk wn := (hEl'.ext hEm).ext hEn
        have hSn := hS.ext hEkn
        have hTn := hT.ext hEkn
        have hJn := hJi.ext hEkn
        have h6n := hEkn.at h6 (fun h => h)
        have halln := hall.ext hEkn
        simp (disch := first | omega | assumption | rfl | (simp only [vcS] <;> omega) | fail) only [↓vcL2, ptS1_eq, ↓vcA, vcB, ↓vcD, vcE, ↓reduceIte, Nat.reduceEqDiff, Nat.reduceAdd, Nat.reduceMul, Nat.reduceLeDiff, Int.reduceLE, Int.reduceLT, Int.reduceEq, Int.reduceToNat, Int.reduceAdd, Int.reduceSub, Int.reduceMul, Int.reduceNeg, reduceCtorEq, Option.bind_some, Option.map_some, List.length_cons, List.length_nil, vcM, List.getElem?_toArray, List.getElem?_cons_zero, List.getElem?_cons_succ]
        obtain ⟨cg, hcg⟩ := row_type halln (g := g) rfl
        have hfl := spareF_len b
        obtain ⟨b0, o0, c0, e0, hc0⟩ := halln.rd.at (i := 0) (by omega)
        obtain ⟨hw0, hset⟩ := halln.set1 (i := 0) (by omega) (IntKind.u8.wrap (BitVec.ofInt IntKind.u8.bits (spareF b)[0] ^^^ BitVec.ofInt IntKind.u8.bits 255).toNat)
        injection e0 with e1 e2 e3
        injection e1 with e1
        injection e1 with e4 e5
        subst e4 e5
        have b9 : 0 ≤ ((b.length + 9 : Nat) : Int) ∧ ((b.length + 9 : Nat) : Int) ≤ ((b.length + 9 : Nat) : Int) := by omega
        have b10 : (0 : Int) < ((b.length + 9 : Nat) : Int) := by omega
        rw [Nat.add_zero] at hc0
        (refine W_at c3_ok ?_; refine ⟨_, rfl, ?_⟩; simp (disch := first | omega | assumption | rfl | (simp only [vcS] <;> omega) | fail) only [↓ptV_l, ↓vcA, vcB, ↓vcD, vcE, ↓reduceIte, Nat.reduceEqDiff, Nat.reduceAdd, Nat.reduceMul, Nat.reduceLeDiff, Int.reduceLE, Int.reduceLT, Int.reduceEq, Int.reduceToNat, Int.reduceAdd, Int.reduceSub, Int.reduceMul, Int.reduceNeg, reduceCtorEq, Option.bind_some, Option.map_some, List.length_cons, List.length_nil, vcM, List.getElem?_toArray, List.getElem?_cons_zero, List.getElem?_cons_succ])
        (refine W_at c3_ok ?_; refine ⟨_, rfl, ?_⟩; simp (disch := first | omega | assumption | rfl | (simp only [vcS] <;> omega) | fail) only [↓ptV_l, ↓vcA, vcB, ↓vcD, vcE, ↓reduceIte, Nat.reduceEqDiff, Nat.reduceAdd, Nat.reduceMul, Nat.reduceLeDiff, Int.reduceLE, Int.reduceLT, Int.reduceEq, Int.reduceToNat, Int.reduceAdd, Int.reduceSub, Int.reduceMul, Int.reduceNeg, reduceCtorEq, Option.bind_some, Option.map_some, List.length_cons, List.length_nil, vcM, List.getElem?_toArray, List.getElem?_cons_zero, List.getElem?_cons_succ, b9, b10, Int.toNat_natCast, Nat.sub_zero, advA_0, hc0])
        refine ⟨hw0, ?_⟩
        have k5 : Keep (fun x => x = g) wn (wn.setCell ⟨g, 0, none⟩ (Value.int IntKind.u8 (IntKind.u8.wrap (BitVec.ofInt IntKind.u8.bits (spareF b)[0] ^^^ BitVec.ofInt IntKind.u8.bits 255).toNat))) := (Keep.refl _ wn).setCell _ fun _ => rfl
        have hS5 := hSn.keep hJn k5 (fun x hx e => hgB x hx e) (fun x hx e => hx e)
        have hT5 := hTn.keep k5 fun x hx e => hx.2 e
        have h65 := k5.at h6n hg6
        have hE5 : Ext w _ := (hE.ext hEkn).trans k5 fun i hi e => by omega
        generalize World.setCell _ _ _ = w5 at k5 hS5 hT5 h65 hE5 ⊢
        (refine W_at c3_ok ?_; refine ⟨_, rfl, ?_⟩; simp (disch := first | omega | assumption | rfl | (simp only [vcS] <;> omega) | fail) only [↓ptV_l, ↓vcA, vcB, ↓vcD, vcE, ↓reduceIte, Nat.reduceEqDiff, Nat.reduceAdd, Nat.reduceMul, Nat.reduceLeDiff, Int.reduceLE, Int.reduceLT, Int.reduceEq, Int.reduceToNat, Int.reduceAdd, Int.reduceSub, Int.reduceMul, Int.reduceNeg, reduceCtorEq, Option.bind_some, Option.map_some, List.length_cons, List.length_nil, vcM, List.getElem?_toArray, List.getElem?_cons_zero, List.getElem?_cons_succ])
        refine callV_ret (Records_ok w5 jp p sv rv J hS5.j (by omega) (fun b hb => Nat.le_trans (hsm.len b hb) (by omega))) ?_
        rintro u w6 ⟨hR6, hE6⟩
        have hlu := hR6.rows.len
        have hO6 := hR6.ob
        generalize hnr : J.recs.length = nr at hlu hO6
        first | (simp (disch := first | omega | assumption | rfl | (simp only [vcS] <;> omega) | fail) only [↓ptV_l, ↓vcA, vcB, ↓vcD, vcE, ↓reduceIte, Nat.reduceEqDiff, Nat.reduceAdd, Nat.reduceMul, Nat.reduceLeDiff, Int.reduceLE, Int.reduceLT, Int.reduceEq, Int.reduceToNat, Int.reduceAdd, Int.reduceSub, Int.reduceMul, Int.reduceNeg, reduceCtorEq, Option.bind_some, Option.map_some, List.length_cons, List.length_nil, vcM, List.getElem?_toArray, List.getElem?_cons_zero, List.getElem?_cons_succ, hlu]) | skip
        -- the end
        have fin : ∀ (wq : World) (tl : Env), Ext w5 wq → W Try.prog (Ret fun u w' => u = .bool true ∧ Ext w w') 3 8 ((0, .slice (some ⟨gb, go, none⟩) nn c) :: (3, .pointer (some ⟨p, 0, none⟩)) :: (4, .pointer (some ⟨jp, 0, none⟩)) :: (6, .pointer (some ⟨p6, 0, none⟩)) :: (7, .int .i64 (j : Nat)) :: tl) wq := by
          intro wq tl hEq
          have hSq := hS5.ext hEq
          have hTq := hT5.ext hEq
          have h6q := hEq.at h65 (fun h => h)
          have hEd : Ext wq wq.drew := (Keep.refl _ wq).drew
          have h6qd := hEd.at h6q (fun h => h)
          (refine W_at c3_ok ?_; refine ⟨_, rfl, ?_⟩; simp (disch := first | omega | assumption | rfl | (simp only [vcS] <;> omega) | fail) only [↓vcL1, ptS2_eq, ↓vcA, vcB, ↓vcD, vcE, ↓reduceIte, Nat.reduceEqDiff, Nat.reduceAdd, Nat.reduceMul, Nat.reduceLeDiff, Int.reduceLE, Int.reduceLT, Int.reduceEq, Int.reduceToNat, Int.reduceAdd, Int.reduceSub, Int.reduceMul, Int.reduceNeg, reduceCtorEq, Option.bind_some, Option.map_some, List.length_cons, List.length_nil, vcM, List.getElem?_toArray, List.getElem?_cons_zero, List.getElem?_cons_succ, h6q, hok6, hx2, s2])
          refine callV_ret (told_ok wq.drew jp p sv rv J (hSq.ext hEd).j (by omega) (by omega) (fun b hb => Nat.le_trans (hsm.len b hb) (by omega))) ?_
          rintro _ wm ⟨s1, r1, rfl, hT1, hEm⟩
          have h6m := hEm.at h6qd (fun h => h)
          simp (disch := first | omega | assumption | rfl | (simp only [vcS] <;> omega) | fail) only [↓vcL2, ptS1_eq, ↓vcA, vcB, ↓vcD, vcE, ↓reduceIte, Nat.reduceEqDiff, Nat.reduceAdd, Nat.reduceMul, Nat.reduceLeDiff, Int.reduceLE, Int.reduceLT, Int.reduceEq, Int.reduceToNat, Int.reduceAdd, Int.reduceSub, Int.reduceMul, Int.reduceNeg, reduceCtorEq, Option.bind_some, Option.map_some, List.length_cons, List.length_nil, vcM, List.getElem?_toArray, List.getElem?_cons_zero, List.getElem?_cons_succ, h6m, hok6, hx2, s2]
          refine callV_ret (rsame_ok wm _ _ s1 r1 sw rw J.state J.state J.recs J.recs hT1 (hTq.ext (hEd.ext hEm)) hby.1 hby.1 hby.2 hby.2 (by omega)) ?_
          rintro _ wn ⟨rfl, hEn⟩
          rw [show decide (J.state = J.state ∧ J.recs = J.recs) = true from decide_eq_true ⟨rfl, rfl⟩]
          have hEqn : Ext wq wn := (hEd.ext hEm).ext hEn
          simp (disch := first | omega | assumption | rfl | (simp only [vcS] <;> omega) | fail) only [↓vcL1, ptS2_eq, ↓vcA, vcB, ↓vcD, vcE, ↓reduceIte, Nat.reduceEqDiff, Nat.reduceAdd, Nat.reduceMul, Nat.reduceLeDiff, Int.reduceLE, Int.reduceLT, Int.reduceEq, Int.reduceToNat, Int.reduceAdd, Int.reduceSub, Int.reduceMul, Int.reduceNeg, reduceCtorEq, Option.bind_some, Option.map_some, List.length_cons, List.length_nil, vcM, List.getElem?_toArray, List.getElem?_cons_zero, List.getElem?_cons_succ]
          (refine W_at c3_ok ?_; refine ⟨_, rfl, ?_⟩; simp (disch := first | omega | assumption | rfl | (simp only [vcS] <;> omega) | fail) only [↓ptV_l, ↓vcA, vcB, ↓vcD, vcE, ↓reduceIte, Nat.reduceEqDiff, Nat.reduceAdd, Nat.reduceMul, Nat.reduceLeDiff, Int.reduceLE, Int.reduceLT, Int.reduceEq, Int.reduceToNat, Int.reduceAdd, Int.reduceSub, Int.reduceMul, Int.reduceNeg, reduceCtorEq, Option.bind_some, Option.map_some, List.length_cons, List.length_nil, vcM, List.getElem?_toArray, List.getElem?_cons_zero, List.getElem?_cons_succ])
          (refine W_at c3_ok ?_; refine ⟨_, rfl, ?_⟩; simp (disch := first | omega | assumption | rfl | (simp only [vcS] <;> omega) | fail) only [↓ptV_l, ↓vcA, vcB, ↓vcD, vcE, ↓reduceIte, Nat.reduceEqDiff, Nat.reduceAdd, Nat.reduceMul, Nat.reduceLeDiff, Int.reduceLE, Int.reduceLT, Int.reduceEq, Int.reduceToNat, Int.reduceAdd, Int.reduceSub, Int.reduceMul, Int.reduceNeg, reduceCtorEq, Option.bind_some, Option.map_some, List.length_cons, List.length_nil, vcM, List.getElem?_toArray, List.getElem?_cons_zero, List.getElem?_cons_succ, hwj])
          (refine W_at c3_ok ?_; refine ⟨_, rfl, ?_⟩; simp (disch := first | omega | assumption | rfl | (simp only [vcS] <;> omega) | fail) only [↓ptV_l, ↓vcA, vcB, ↓vcD, vcE, ↓reduceIte, Nat.reduceEqDiff, Nat.reduceAdd, Nat.reduceMul, Nat.reduceLeDiff, Int.reduceLE, Int.reduceLT, Int.reduceEq, Int.reduceToNat, Int.reduceAdd, Int.reduceSub, Int.reduceMul, Int.reduceNeg, reduceCtorEq, Option.bind_some, Option.map_some, List.length_cons, List.length_nil, vcM, List.getElem?_toArray, List.getElem?_cons_zero, List.getElem?_cons_succ])
          exact ih (j + 1) wn jp sv rv qv sw rw J d (by omega) (hSq.ext hEqn) hG hl hn hsm ((hTq.ext hEqn).mono fun x hx => hx.1) (hEqn.at h6q fun h => h) ((hE5.ext hEq).ext hEqn)
        have L1 : ∀ (k i : Nat) (wq : World), k + i = nr → Ext w5 wq → RowsO w5.heap.size wq u nr → W Try.prog (Ret fun u w' => u = .bool true ∧ Ext w w') 3 20 [(0, .slice (some ⟨gb, go, none⟩) nn c), (3, .pointer (some ⟨p, 0, none⟩)), (4, .pointer (some ⟨jp, 0, none⟩)), (6, .pointer (some ⟨p6, 0, none⟩)), (7, .int .i64 (j : Nat)), (102, u), (103, .int .i64 (nr : Nat)), (104, .int .i64 (i : Nat))] wq := by
          intro k
          induction k with
          | zero =>
            intro i wq hi hEq hO
            have hno : ¬ ((i : Nat) : Int) < (nr : Nat) := by omega
            (refine W_at c3_ok ?_; refine ⟨_, rfl, ?_⟩; simp (disch := first | omega | assumption | rfl | (simp only [vcS] <;> omega) | fail) only [↓ptV_l, ↓vcA, vcB, ↓vcD, vcE, ↓reduceIte, Nat.reduceEqDiff, Nat.reduceAdd, Nat.reduceMul, Nat.reduceLeDiff, Int.reduceLE, Int.reduceLT, Int.reduceEq, Int.reduceToNat, Int.reduceAdd, Int.reduceSub, Int.reduceMul, Int.reduceNeg, reduceCtorEq, Option.bind_some, Option.map_some, List.length_cons, List.length_nil, vcM, List.getElem?_toArray, List.getElem?_cons_zero, List.getElem?_cons_succ, hno])
            (refine W_at c3_ok ?_; refine ⟨_, rfl, ?_⟩; simp (disch := first | omega | assumption | rfl | (simp only [vcS] <;> omega) | fail) only [↓ptV_l, ↓vcA, vcB, ↓vcD, vcE, ↓reduceIte, Nat.reduceEqDiff, Nat.reduceAdd, Nat.reduceMul, Nat.reduceLeDiff, Int.reduceLE, Int.reduceLT, Int.reduceEq, Int.reduceToNat, Int.reduceAdd, Int.reduceSub, Int.reduceMul, Int.reduceNeg, reduceCtorEq, Option.bind_some, Option.map_some, List.length_cons, List.length_nil, vcM, List.getElem?_toArray, List.getElem?_cons_zero, List.getElem?_cons_succ])
            exact fin wq _ hEq
          | succ k ih1 =>
            intro i wq hi hEq hO
            have hlt : ((i : Nat) : Int) < (nr : Nat) := by omega
            have b1 : 0 ≤ ((i : Nat) : Int) ∧ ((i : Nat) : Int) < (nr : Nat) := by omega
            have hwi : IntKind.i64.wrap (((i : Nat) : Int) + 1) = ((i + 1 : Nat) : Int) := wrap_i64 (by omega) (by omega)
            obtain ⟨vs, hvl, hO1, hO2⟩ := id hO
            obtain ⟨g1, o1, cap1, cur1, e1, hh1, hr1⟩ := hO1.at (j := i) (by rw [List.length_map]; omega)
            have hcx := rdO_cell hr1 (j := 0) (by omega)
            rw [Nat.add_zero] at hcx
            simp only [List.getElem_map, List.length_map, hvl] at hcx e1
            have hvi : (#[vs[i]'(by omega)] : Array Value)[0]? = some (vs[i]'(by omega)) := rfl
            rw [hvi] at hcx
            have hob := hO2 _ (List.getElem_mem (show i < vs.length by omega))
            generalize vs[i]'(by omega) = vi at hcx hob
            obtain ⟨qi, li, ci, ei, hlb, hcells⟩ := hob.at
            subst ei e1
            (refine W_at c3_ok ?_; refine ⟨_, rfl, ?_⟩; simp (disch := first | omega | assumption | rfl | (simp only [vcS] <;> omega) | fail) only [↓ptV_l, ↓vcA, vcB, ↓vcD, vcE, ↓reduceIte, Nat.reduceEqDiff, Nat.reduceAdd, Nat.reduceMul, Nat.reduceLeDiff, Int.reduceLE, Int.reduceLT, Int.reduceEq, Int.reduceToNat, Int.reduceAdd, Int.reduceSub, Int.reduceMul, Int.reduceNeg, reduceCtorEq, Option.bind_some, Option.map_some, List.length_cons, List.length_nil, vcM, List.getElem?_toArray, List.getElem?_cons_zero, List.getElem?_cons_succ, hlt])
            (refine W_at c3_ok ?_; refine ⟨_, rfl, ?_⟩; simp (disch := first | omega | assumption | rfl | (simp only [vcS] <;> omega) | fail) only [↓ptV_l, ↓vcA, vcB, ↓vcD, vcE, ↓reduceIte, Nat.reduceEqDiff, Nat.reduceAdd, Nat.reduceMul, Nat.reduceLeDiff, Int.reduceLE, Int.reduceLT, Int.reduceEq, Int.reduceToNat, Int.reduceAdd, Int.reduceSub, Int.reduceMul, Int.reduceNeg, reduceCtorEq, Option.bind_some, Option.map_some, List.length_cons, List.length_nil, vcM, List.getElem?_toArray, List.getElem?_cons_zero, List.getElem?_cons_succ])
            (refine W_at c3_ok ?_; refine ⟨_, rfl, ?_⟩; simp (disch := first | omega | assumption | rfl | (simp only [vcS] <;> omega) | fail) only [↓ptV_l, ↓vcA, vcB, ↓vcD, vcE, ↓reduceIte, Nat.reduceEqDiff, Nat.reduceAdd, Nat.reduceMul, Nat.reduceLeDiff, Int.reduceLE, Int.reduceLT, Int.reduceEq, Int.reduceToNat, Int.reduceAdd, Int.reduceSub, Int.reduceMul, Int.reduceNeg, reduceCtorEq, Option.bind_some, Option.map_some, List.length_cons, List.length_nil, vcM, List.getElem?_toArray, List.getElem?_cons_zero, List.getElem?_cons_succ, b1, Int.toNat_natCast, hcx])
            (refine W_at c3_ok ?_; refine ⟨_, rfl, ?_⟩; simp (disch := first | omega | assumption | rfl | (simp only [vcS] <;> omega) | fail) only [↓ptV_l, ↓vcA, vcB, ↓vcD, vcE, ↓reduceIte, Nat.reduceEqDiff, Nat.reduceAdd, Nat.reduceMul, Nat.reduceLeDiff, Int.reduceLE, Int.reduceLT, Int.reduceEq, Int.reduceToNat, Int.reduceAdd, Int.reduceSub, Int.reduceMul, Int.reduceNeg, reduceCtorEq, Option.bind_some, Option.map_some, List.length_cons, List.length_nil, vcM, List.getElem?_toArray, List.getElem?_cons_zero, List.getElem?_cons_succ])
            have L2 : ∀ (m t : Nat) (wz : World), m + t = li → Ext w5 wz → RowsO w5.heap.size wz (.slice (some ⟨g1, o1, none⟩) nr cap1) nr → OB w5.heap.size wz (.slice qi li ci) → W Try.prog (Ret fun u w' => u = .bool true ∧ Ext w w') 3 16 [(0, .slice (some ⟨gb, go, none⟩) nn c), (3, .pointer (some ⟨p, 0, none⟩)), (4, .pointer (some ⟨jp, 0, none⟩)), (6, .pointer (some ⟨p6, 0, none⟩)), (7, .int .i64 (j : Nat)), (12, .slice qi li ci), (102, .slice (some ⟨g1, o1, none⟩) nr cap1), (103, .int .i64 (nr : Nat)), (104, .int .i64 (i : Nat)), (109, .int .i64 (li : Nat)), (110, .int .i64 (t : Nat))] wz := by
              intro m
              induction m with
              | zero =>
                intro t wz ht hEz hOz hoz
                have hno : ¬ ((t : Nat) : Int) < (li : Nat) := by omega
                (refine W_at c3_ok ?_; refine ⟨_, rfl, ?_⟩; simp (disch := first | omega | assumption | rfl | (simp only [vcS] <;> omega) | fail) only [↓ptV_l, ↓vcA, vcB, ↓vcD, vcE, ↓reduceIte, Nat.reduceEqDiff, Nat.reduceAdd, Nat.reduceMul, Nat.reduceLeDiff, Int.reduceLE, Int.reduceLT, Int.reduceEq, Int.reduceToNat, Int.reduceAdd, Int.reduceSub, Int.reduceMul, Int.reduceNeg, reduceCtorEq, Option.bind_some, Option.map_some, List.length_cons, List.length_nil, vcM, List.getElem?_toArray, List.getElem?_cons_zero, List.getElem?_cons_succ, hno])
                (refine W_at c3_ok ?_; refine ⟨_, rfl, ?_⟩; simp (disch := first | omega | assumption | rfl | (simp only [vcS] <;> omega) | fail) only [↓ptV_l, ↓vcA, vcB, ↓vcD, vcE, ↓reduceIte, Nat.reduceEqDiff, Nat.reduceAdd, Nat.reduceMul, Nat.reduceLeDiff, Int.reduceLE, Int.reduceLT, Int.reduceEq, Int.reduceToNat, Int.reduceAdd, Int.reduceSub, Int.reduceMul, Int.reduceNeg, reduceCtorEq, Option.bind_some, Option.map_some, List.length_cons, List.length_nil, vcM, List.getElem?_toArray, List.getElem?_cons_zero, List.getElem?_cons_succ])
                (refine W_at c3_ok ?_; refine ⟨_, rfl, ?_⟩; simp (disch := first | omega | assumption | rfl | (simp only [vcS] <;> omega) | fail) only [↓ptV_l, ↓vcA, vcB, ↓vcD, vcE, ↓reduceIte, Nat.reduceEqDiff, Nat.reduceAdd, Nat.reduceMul, Nat.reduceLeDiff, Int.reduceLE, Int.reduceLT, Int.reduceEq, Int.reduceToNat, Int.reduceAdd, Int.reduceSub, Int.reduceMul, Int.reduceNeg, reduceCtorEq, Option.bind_some, Option.map_some, List.length_cons, List.length_nil, vcM, List.getElem?_toArray, List.getElem?_cons_zero, List.getElem?_cons_succ, hwi])
                (refine W_at c3_ok ?_; refine ⟨_, rfl, ?_⟩; simp (disch := first | omega | assumption | rfl | (simp only [vcS] <;> omega) | fail) only [↓ptV_l, ↓vcA, vcB, ↓vcD, vcE, ↓reduceIte, Nat.reduceEqDiff, Nat.reduceAdd, Nat.reduceMul, Nat.reduceLeDiff, Int.reduceLE, Int.reduceLT, Int.reduceEq, Int.reduceToNat, Int.reduceAdd, Int.reduceSub, Int.reduceMul, Int.reduceNeg, reduceCtorEq, Option.bind_some, Option.map_some, List.length_cons, List.length_nil, vcM, List.getElem?_toArray, List.getElem?_cons_zero, List.getElem?_cons_succ])
                exact ih1 (i + 1) wz (by omega) hEz hOz
              | succ m ih2 =>
                intro t wz ht hEz hOz hoz
                have hlt2 : ((t : Nat) : Int) < (li : Nat) := by omega
                have b2 : 0 ≤ ((t : Nat) : Int) ∧ ((t : Nat) : Int) < (li : Nat) := by omega
                have hwt : IntKind.i64.wrap (((t : Nat) : Int) + 1) = ((t + 1 : Nat) : Int) := wrap_i64 (by omega) (by omega)
                obtain ⟨q2, l2, c2, e2, _, hcells2⟩ := hoz.at
                injection e2 with e3 e4 e5
                subst e3 e4 e5
                obtain ⟨g2, x2, hq2, hm2, hc2, hw2, cc2, hcc2⟩ := hcells2 t (by omega)
                subst hq2
                (refine W_at c3_ok ?_; refine ⟨_, rfl, ?_⟩; simp (disch := first | omega | assumption | rfl | (simp only [vcS] <;> omega) | fail) only [↓ptV_l, ↓vcA, vcB, ↓vcD, vcE, ↓reduceIte, Nat.reduceEqDiff, Nat.reduceAdd, Nat.reduceMul, Nat.reduceLeDiff, Int.reduceLE, Int.reduceLT, Int.reduceEq, Int.reduceToNat, Int.reduceAdd, Int.reduceSub, Int.reduceMul, Int.reduceNeg, reduceCtorEq, Option.bind_some, Option.map_some, List.length_cons, List.length_nil, vcM, List.getElem?_toArray, List.getElem?_cons_zero, List.getElem?_cons_succ, hlt2])
                (refine W_at c3_ok ?_; refine ⟨_, rfl, ?_⟩; simp (disch := first | omega | assumption | rfl | (simp only [vcS] <;> omega) | fail) only [↓ptV_l, ↓vcA, vcB, ↓vcD, vcE, ↓reduceIte, Nat.reduceEqDiff, Nat.reduceAdd, Nat.reduceMul, Nat.reduceLeDiff, Int.reduceLE, Int.reduceLT, Int.reduceEq, Int.reduceToNat, Int.reduceAdd, Int.reduceSub, Int.reduceMul, Int.reduceNeg, reduceCtorEq, Option.bind_some, Option.map_some, List.length_cons, List.length_nil, vcM, List.getElem?_toArray, List.getElem?_cons_zero, List.getElem?_cons_succ])
                (refine W_at c3_ok ?_; refine ⟨_, rfl, ?_⟩; simp (disch := first | omega | assumption | rfl | (simp only [vcS] <;> omega) | fail) only [↓ptV_l, ↓vcA, vcB, ↓vcD, vcE, ↓reduceIte, Nat.reduceEqDiff, Nat.reduceAdd, Nat.reduceMul, Nat.reduceLeDiff, Int.reduceLE, Int.reduceLT, Int.reduceEq, Int.reduceToNat, Int.reduceAdd, Int.reduceSub, Int.reduceMul, Int.reduceNeg, reduceCtorEq, Option.bind_some, Option.map_some, List.length_cons, List.length_nil, vcM, List.getElem?_toArray, List.getElem?_cons_zero, List.getElem?_cons_succ])
                (refine W_at c3_ok ?_; refine ⟨_, rfl, ?_⟩; simp (disch := first | omega | assumption | rfl | (simp only [vcS] <;> omega) | fail) only [↓ptV_l, ↓vcA, vcB, ↓vcD, vcE, ↓reduceIte, Nat.reduceEqDiff, Nat.reduceAdd, Nat.reduceMul, Nat.reduceLeDiff, Int.reduceLE, Int.reduceLT, Int.reduceEq, Int.reduceToNat, Int.reduceAdd, Int.reduceSub, Int.reduceMul, Int.reduceNeg, reduceCtorEq, Option.bind_some, Option.map_some, List.length_cons, List.length_nil, vcM, List.getElem?_toArray, List.getElem?_cons_zero, List.getElem?_cons_succ, b2, Int.toNat_natCast, Nat.mul_one, Nat.zero_add, hc2])
                refine ⟨hw2, ?_⟩
                have hOz2 := hOz.poke (i := t) (x := IntKind.u8.wrap (BitVec.ofInt IntKind.u8.bits x2 ^^^ BitVec.ofInt IntKind.u8.bits 255).toNat) hcc2
                have hoz2 := hoz.poke g2 t (IntKind.u8.wrap (BitVec.ofInt IntKind.u8.bits x2 ^^^ BitVec.ofInt IntKind.u8.bits 255).toNat)
                have hEz2 : Ext w5 (wz.setCell ⟨g2, t, none⟩ (.int .u8 (IntKind.u8.wrap (BitVec.ofInt IntKind.u8.bits x2 ^^^ BitVec.ofInt IntKind.u8.bits 255).toNat))) := hEz.trans ((Keep.refl _ wz).setCell (S := fun x => x = g2) _ fun _ => rfl) fun x hx e => by omega
                generalize World.setCell _ _ _ = wy at hOz2 hoz2 hEz2 ⊢
                (refine W_at c3_ok ?_; refine ⟨_, rfl, ?_⟩; simp (disch := first | omega | assumption | rfl | (simp only [vcS] <;> omega) | fail) only [↓ptV_l, ↓vcA, vcB, ↓vcD, vcE, ↓reduceIte, Nat.reduceEqDiff, Nat.reduceAdd, Nat.reduceMul, Nat.reduceLeDiff, Int.reduceLE, Int.reduceLT, Int.reduceEq, Int.reduceToNat, Int.reduceAdd, Int.reduceSub, Int.reduceMul, Int.reduceNeg, reduceCtorEq, Option.bind_some, Option.map_some, List.length_cons, List.length_nil, vcM, List.getElem?_toArray, List.getElem?_cons_zero, List.getElem?_cons_succ, hwt])
                (refine W_at c3_ok ?_; refine ⟨_, rfl, ?_⟩; simp (disch := first | omega | assumption | rfl | (simp only [vcS] <;> omega) | fail) only [↓ptV_l, ↓vcA, vcB, ↓vcD, vcE, ↓reduceIte, Nat.reduceEqDiff, Nat.reduceAdd, Nat.reduceMul, Nat.reduceLeDiff, Int.reduceLE, Int.reduceLT, Int.reduceEq, Int.reduceToNat, Int.reduceAdd, Int.reduceSub, Int.reduceMul, Int.reduceNeg, reduceCtorEq, Option.bind_some, Option.map_some, List.length_cons, List.length_nil, vcM, List.getElem?_toArray, List.getElem?_cons_zero, List.getElem?_cons_succ])
                exact ih2 (t + 1) wy (by omega) hEz2 hOz2 hoz2
            exact L2 li 0 wq (by omega) hEq hO hob
        exact L1 nr 0 w6 (by omega) hE6 hO6
      have hr5 := rdO_cell hr (j := 5) (by omega)
      (refine W_at c3_ok ?_; refine ⟨_, rfl, ?_⟩; simp (disch := first | omega | assumption | rfl | (simp only [vcS] <;> omega) | fail) only [↓ptV_l, ↓vcA, vcB, ↓vcD, vcE, ↓reduceIte, Nat.reduceEqDiff, Nat.reduceAdd, Nat.reduceMul, Nat.reduceLeDiff, Int.reduceLE, Int.reduceLT, Int.reduceEq, Int.reduceToNat, Int.reduceAdd, Int.reduceSub, Int.reduceMul, Int.reduceNeg, reduceCtorEq, Option.bind_some, Option.map_some, List.length_cons, List.length_nil, vcM, List.getElem?_toArray, List.getElem?_cons_zero, List.getElem?_cons_succ, c1, c2])
      (refine W_at c3_ok ?_; refine ⟨_, rfl, ?_⟩; simp (disch := first | omega | assumption | rfl | (simp only [vcS] <;> omega) | fail) only [↓ptV_l, ↓vcA, vcB, ↓vcD, vcE, ↓reduceIte, Nat.reduceEqDiff, Nat.reduceAdd, Nat.reduceMul, Nat.reduceLeDiff, Int.reduceLE, Int.reduceLT, Int.reduceEq, Int.reduceToNat, Int.reduceAdd, Int.reduceSub, Int.reduceMul, Int.reduceNeg, reduceCtorEq, Option.bind_some, Option.map_some, List.length_cons, List.length_nil, vcM, List.getElem?_toArray, List.getElem?_cons_zero, List.getElem?_cons_succ])
      (refine W_at c3_ok ?_; refine ⟨_, rfl, ?_⟩; simp (disch := first | omega | assumption | rfl | (simp only [vcS] <;> omega) | fail) only [↓ptV_l, ↓vcA, vcB, ↓vcD, vcE, ↓reduceIte, Nat.reduceEqDiff, Nat.reduceAdd, Nat.reduceMul, Nat.reduceLeDiff, Int.reduceLE, Int.reduceLT, Int.reduceEq, Int.reduceToNat, Int.reduceAdd, Int.reduceSub, Int.reduceMul, Int.reduceNeg, reduceCtorEq, Option.bind_some, Option.map_some, List.length_cons, List.length_nil, vcM, List.getElem?_toArray, List.getElem?_cons_zero, List.getElem?_cons_succ, cw, Int.toNat_natCast, hr5, List.getElem?_toArray, List.getElem?_cons_succ, List.getElem?_cons_zero])
      refine callV_ret (small_ok wj v bs 400 (hact.rd.ext hE)) ?_
      rintro vb wq ⟨hvb, hw⟩
      obtain rfl : wj = wq := hw.symm
      have hvb := hvb w hact.rd
      rw [hb'] at hvb
      first | (simp (disch := first | omega | assumption | rfl | (simp only [vcS] <;> omega) | fail) only [↓ptV_l, ↓vcA, vcB, ↓vcD, vcE, ↓reduceIte, Nat.reduceEqDiff, Nat.reduceAdd, Nat.reduceMul, Nat.reduceLeDiff, Int.reduceLE, Int.reduceLT, Int.reduceEq, Int.reduceToNat, Int.reduceAdd, Int.reduceSub, Int.reduceMul, Int.reduceNeg, reduceCtorEq, Option.bind_some, Option.map_some, List.length_cons, List.length_nil, vcM, List.getElem?_toArray, List.getElem?_cons_zero, List.getElem?_cons_succ]) | skip
      (refine W_at c3_ok ?_; refine ⟨_, rfl, ?_⟩; simp (disch := first | omega | assumption | rfl | (simp only [vcS] <;> omega) | fail) only [↓ptV_l, ↓vcA, vcB, ↓vcD, vcE, ↓reduceIte, Nat.reduceEqDiff, Nat.reduceAdd, Nat.reduceMul, Nat.reduceLeDiff, Int.reduceLE, Int.reduceLT, Int.reduceEq, Int.reduceToNat, Int.reduceAdd, Int.reduceSub, Int.reduceMul, Int.reduceNeg, reduceCtorEq, Option.bind_some, Option.map_some, List.length_cons, List.length_nil, vcM, List.getElem?_toArray, List.getElem?_cons_zero, List.getElem?_cons_succ])
      refine callV_ret (spare_ok wj vb b (hvb.ext hE) hbb (by omega)) ?_
      rintro _ wa ⟨g, rfl, hall, hEa, hga⟩
      first | (simp (disch := first | omega | assumption | rfl | (simp only [vcS] <;> omega) | fail) only [↓ptV_l, ↓vcA, vcB, ↓vcD, vcE, ↓reduceIte, Nat.reduceEqDiff, Nat.reduceAdd, Nat.reduceMul, Nat.reduceLeDiff, Int.reduceLE, Int.reduceLT, Int.reduceEq, Int.reduceToNat, Int.reduceAdd, Int.reduceSub, Int.reduceMul, Int.reduceNeg, reduceCtorEq, Option.bind_some, Option.map_some, List.length_cons, List.length_nil, vcM, List.getElem?_toArray, List.getElem?_cons_zero, List.getElem?_cons_succ]) | skip
      have hgl : g < wa.heap.size := hall.lt (g := g) rfl
      have hr0 := rdO_cell (rdO_ext hEa hr) (j := 0) (by omega)
      rw [Nat.add_zero] at hr0
      have hxs := Spare_x hall
      have hSa := hS.ext hEa
      have hTa := ((hT.all).ext hEa)
      have h6a := hEa.at h6 (fun h => h)
      have hwj6 := lt_of_heap h6
      have hJa := hS.j.lt_in.ext hEa
      have hEwa := hE.ext hEa
      have hbase : w.heap.size ≤ wa.heap.size := hEwa.size
      have hok6 : okO (some (Obj.cells #[sw, rw] 33 (0, 0))) 0 2 = True := by simp [okO]
      have hx2 : (#[sw, rw] : Array Value).extract 0 (0 + 2) = #[sw, rw] := rfl
      have s2 : (#[sw, rw] : Array Value).size = 2 := rfl
      (refine W_at c3_ok ?_; refine ⟨_, rfl, ?_⟩; simp (disch := first | omega | assumption | rfl | (simp only [vcS] <;> omega) | fail) only [↓ptV_l, ↓vcA, vcB, ↓vcD, vcE, ↓reduceIte, Nat.reduceEqDiff, Nat.reduceAdd, Nat.reduceMul, Nat.reduceLeDiff, Int.reduceLE, Int.reduceLT, Int.reduceEq, Int.reduceToNat, Int.reduceAdd, Int.reduceSub, Int.reduceMul, Int.reduceNeg, reduceCtorEq, Option.bind_some, Option.map_some, List.length_cons, List.length_nil, vcM, List.getElem?_toArray, List.getElem?_cons_zero, List.getElem?_cons_succ, cw, Int.toNat_natCast, hr0, List.getElem?_toArray, List.getElem?_cons_succ, List.getElem?_cons_zero])
      have hjl : jp < wj.heap.size := hS.j.lt
      have hDB : ∀ x, DB p r qv x → x < wj.heap.size := fun x hx => hS.lt (.inr (.inl hx))
      have hrvl : ∀ x, blk rv x → x < wj.heap.size := fun x hx => hS.lt (.inr (.inr hx))
      have tail : ∀ (wb wc : World) (sv' rv' qv' sw' rw' : Value) (J' : JS) (d' : DS), StepTo w.heap.size wa wb jp p r rv qv J' d' sv' rv' qv' → Good d' J' → d'.left = -1 → d'.n = 2000 → Small J' (j + 1) 400 → Ext wb wc →
          TAt (fun x => (¬ blk rv x ∧ x < wj.heap.size) ∨ wb.heap.size ≤ x) wc sw' rw' J'.state J'.recs → wc.heap[p6]? = some (.cells #[sw, rw] 33 (0, 0)) →
          W Try.prog (Ret fun u w' => u = .bool true ∧ Ext w w') 3 26 [(0, .slice (some ⟨gb, go, none⟩) nn c), (3, .pointer (some ⟨p, 0, none⟩)), (4, .pointer (some ⟨jp, 0, none⟩)), (5, .int .i64 0), (6, .pointer (some ⟨p6, 0, none⟩)), (7, .int .i64 (j : Nat)), (8, vb), (9, .slice (some ⟨g, 0, none⟩) b.length (b.length + 9)), (10, .slice (some ⟨g, 0, none⟩) (b.length + 9) (b.length + 9))] (wc.putN p6 0 #[sw', rw']) := by
        intro wb wc sv' rv' qv' sw' rw' J' d' hSt hG' hl' hn' hsm' hEc hTc h6c
        have k6 : Keep (fun x => x = p6) wc (wc.putN p6 0 #[sw', rw']) := (Keep.refl _ wc).putN _ fun _ => rfl
        have h6d : (wc.putN p6 0 #[sw', rw']).heap[p6]? = some (.cells #[sw', rw'] 33 (0, 0)) := by rw [heap_putN_eq h6c, splice_all (by simp)]
        generalize World.putN _ _ _ _ = wd at k6 h6d ⊢
        have zb : wa.heap.size ≤ wb.heap.size := hSt.keep.size
        have hEwb : Ext w wb := hEwa.trans hSt.keep fun i hi hg => by have := hSa.base i hg; omega
        have hEwd : Ext w wd := (hEwb.ext hEc).trans k6 fun i hi e => by omega
        have hSc := hSt.sys.ext hEc
        have hrl : ∀ x, blk rv' x → x < wb.heap.size := fun x hx => hSt.sys.lt (.inr (.inr hx))
        refine rest wd jp sv' rv' qv' sw' rw' vb J' d' g (hSc.box h6c k6) hG' hl' hn' hsm' ((hTc.mono fun x hx => ?_).box h6c k6) (((hSt.ins _ (hJa.mono fun x hx => ?_) fun x hx => ?_).ext hEc).box h6c k6) (fun x hx => ?_) (by omega) (by have := hE.size; omega) h6d hEwd (hvb.ext hEwd) ?_
        · rcases hx with ⟨h1, h2⟩ | h1
          · refine ⟨fun hb => ?_, by omega⟩
            rcases hSt.rvb x hb with h3 | h3
            · exact h1 h3
            · have := hEa.size; omega
          · exact ⟨fun hb => by have := hrl x hb; omega, by omega⟩
        · show x ≠ g; omega
        · show x ≠ g; omega
        · rcases hx with rfl | (rfl | rfl | hx) | hx
          · omega
          · have := hDB _ (.inl rfl); omega
          · have := hDB _ (.inr (.inl rfl)); omega
          · rcases hSt.qvb x hx with h3 | h3
            · have := hDB _ (.inr (.inr h3)); omega
            · omega
          · rcases hSt.rvb x hx with h3 | h3
            · have := hrvl _ h3; omega
            · omega
        · obtain ⟨cg, hcg⟩ := row_type hall (g := g) rfl
          have h1 := (hall.keep hSt.keep fun x hx => by
            have e : g = x := Option.some.inj hx
            subst e
            exact hSa.nb hcg (by decide) (by decide) (by decide) (by decide)).ext hEc
          exact h1.keep k6 fun x hx e => by
            have e : g = x := Option.some.inj hx
            omega
      by_cases k1 : kind = 1
      · subst k1
        have hroom : ((b.length : Nat) : Int) ≤ roomF d J := by unfold roomF; rw [hn]; have := hsm.pos; have : secs 2000 = 999 := rfl; omega
        (refine W_at c3_ok ?_; refine ⟨_, rfl, ?_⟩; simp (disch := first | omega | assumption | rfl | (simp only [vcS] <;> omega) | fail) only [↓ptV_l, ↓vcA, vcB, ↓vcD, vcE, ↓reduceIte, Nat.reduceEqDiff, Nat.reduceAdd, Nat.reduceMul, Nat.reduceLeDiff, Int.reduceLE, Int.reduceLT, Int.reduceEq, Int.reduceToNat, Int.reduceAdd, Int.reduceSub, Int.reduceMul, Int.reduceNeg, reduceCtorEq, Option.bind_some, Option.map_some, List.length_cons, List.length_nil, vcM, List.getElem?_toArray, List.getElem?_cons_zero, List.getElem?_cons_succ])
        (refine W_at c3_ok ?_; refine ⟨_, rfl, ?_⟩; simp (disch := first | omega | assumption | rfl | (simp only [vcS] <;> omega) | fail) only [↓ptV_l, ↓vcA, vcB, ↓vcD, vcE, ↓reduceIte, Nat.reduceEqDiff, Nat.reduceAdd, Nat.reduceMul, Nat.reduceLeDiff, Int.reduceLE, Int.reduceLT, Int.reduceEq, Int.reduceToNat, Int.reduceAdd, Int.reduceSub, Int.reduceMul, Int.reduceNeg, reduceCtorEq, Option.bind_some, Option.map_some, List.length_cons, List.length_nil, vcM, List.getElem?_toArray, List.getElem?_cons_zero, List.getElem?_cons_succ])
        (refine W_at c3_ok ?_; refine ⟨_, rfl, ?_⟩; simp (disch := first | omega | assumption | rfl | (simp only [vcS] <;> omega) | fail) only [↓ptV_l, ↓vcA, vcB, ↓vcD, vcE, ↓reduceIte, Nat.reduceEqDiff, Nat.reduceAdd, Nat.reduceMul, Nat.reduceLeDiff, Int.reduceLE, Int.reduceLT, Int.reduceEq, Int.reduceToNat, Int.reduceAdd, Int.reduceSub, Int.reduceMul, Int.reduceNeg, reduceCtorEq, Option.bind_some, Option.map_some, List.length_cons, List.length_nil, vcM, List.getElem?_toArray, List.getElem?_cons_zero, List.getElem?_cons_succ])
        refine callV_ret (Append_ok wa jp p r sv rv qv J d _ b hSa.j hSa.d hG hxs hbb (by have := hsm.recs; omega)) ?_
        intro u wb hAp
        obtain ⟨rfl, d', hG', hl', hn', hT'⟩ := appR_quiet hl (by omega) hroom hAp
        obtain ⟨sv', rv', qv', hSt⟩ := JTo.step hSa hbase hT'
        have hTb := hSa.tat hSt.keep hTa fun x hx => hx.1
        have h6b := hSt.keep.at h6a (hSa.nb h6a (by decide) (by decide) (by decide) (by decide))
        have hEwb : Ext w wb := hEwa.trans hSt.keep fun i hi hg => by have := hSa.base i hg; omega
        first | (simp (disch := first | omega | assumption | rfl | (simp only [vcS] <;> omega) | fail) only [↓ptV_l, ↓vcA, vcB, ↓vcD, vcE, ↓reduceIte, Nat.reduceEqDiff, Nat.reduceAdd, Nat.reduceMul, Nat.reduceLeDiff, Int.reduceLE, Int.reduceLT, Int.reduceEq, Int.reduceToNat, Int.reduceAdd, Int.reduceSub, Int.reduceMul, Int.reduceNeg, reduceCtorEq, Option.bind_some, Option.map_some, List.length_cons, List.length_nil, vcM, List.getElem?_toArray, List.getElem?_cons_zero, List.getElem?_cons_succ]) | skip
        (refine W_at c3_ok ?_; refine ⟨_, rfl, ?_⟩; simp (disch := first | omega | assumption | rfl | (simp only [vcS] <;> omega) | fail) only [↓ptV_l, ↓vcA, vcB, ↓vcD, vcE, ↓reduceIte, Nat.reduceEqDiff, Nat.reduceAdd, Nat.reduceMul, Nat.reduceLeDiff, Int.reduceLE, Int.reduceLT, Int.reduceEq, Int.reduceToNat, Int.reduceAdd, Int.reduceSub, Int.reduceMul, Int.reduceNeg, reduceCtorEq, Option.bind_some, Option.map_some, List.length_cons, List.length_nil, vcM, List.getElem?_toArray, List.getElem?_cons_zero, List.getElem?_cons_succ, h6b, hok6, hx2, s2])
        refine callV_ret (rappend_ok wb _ sw rw vb J.state b J.recs hTb (hvb.ext hEwb) (by omega) (by have := hsm.recs; omega)) ?_
        rintro _ wc ⟨rw', rfl, hTc, hrwn, hEc⟩
        have h6c := hEc.at h6b (fun h => h)
        have s2' : (#[sw, rw'] : Array Value).size = 2 := rfl
        simp (disch := first | omega | assumption | rfl | (simp only [vcS] <;> omega) | fail) only [↓ptV_l, ↓vcA, vcB, ↓vcD, vcE, ↓reduceIte, Nat.reduceEqDiff, Nat.reduceAdd, Nat.reduceMul, Nat.reduceLeDiff, Int.reduceLE, Int.reduceLT, Int.reduceEq, Int.reduceToNat, Int.reduceAdd, Int.reduceSub, Int.reduceMul, Int.reduceNeg, reduceCtorEq, Option.bind_some, Option.map_some, List.length_cons, List.length_nil, vcM, List.getElem?_toArray, List.getElem?_cons_zero, List.getElem?_cons_succ, h6c, hok6, hx2, s2']
        refine ⟨⟨hTc.st.1.one, hTc.recs.one⟩, ?_⟩
        exact tail wb wc sv' rv' qv' sw rw' (J.app b) d' hSt hG' hl' (hn'.trans hn) (hsm.app hbl) hEc hTc h6c
      · by_cases k2 : kind = 2
        · subst k2
          (refine W_at c3_ok ?_; refine ⟨_, rfl, ?_⟩; simp (disch := first | omega | assumption | rfl | (simp only [vcS] <;> omega) | fail) only [↓ptV_l, ↓vcA, vcB, ↓vcD, vcE, ↓reduceIte, Nat.reduceEqDiff, Nat.reduceAdd, Nat.reduceMul, Nat.reduceLeDiff, Int.reduceLE, Int.reduceLT, Int.reduceEq, Int.reduceToNat, Int.reduceAdd, Int.reduceSub, Int.reduceMul, Int.reduceNeg, reduceCtorEq, Option.bind_some, Option.map_some, List.length_cons, List.length_nil, vcM, List.getElem?_toArray, List.getElem?_cons_zero, List.getElem?_cons_succ])
          (refine W_at c3_ok ?_; refine ⟨_, rfl, ?_⟩; simp (disch := first | omega | assumption | rfl | (simp only [vcS] <;> omega) | fail) only [↓ptV_l, ↓vcA, vcB, ↓vcD, vcE, ↓reduceIte, Nat.reduceEqDiff, Nat.reduceAdd, Nat.reduceMul, Nat.reduceLeDiff, Int.reduceLE, Int.reduceLT, Int.reduceEq, Int.reduceToNat, Int.reduceAdd, Int.reduceSub, Int.reduceMul, Int.reduceNeg, reduceCtorEq, Option.bind_some, Option.map_some, List.length_cons, List.length_nil, vcM, List.getElem?_toArray, List.getElem?_cons_zero, List.getElem?_cons_succ])
          (refine W_at c3_ok ?_; refine ⟨_, rfl, ?_⟩; simp (disch := first | omega | assumption | rfl | (simp only [vcS] <;> omega) | fail) only [↓ptV_l, ↓vcA, vcB, ↓vcD, vcE, ↓reduceIte, Nat.reduceEqDiff, Nat.reduceAdd, Nat.reduceMul, Nat.reduceLeDiff, Int.reduceLE, Int.reduceLT, Int.reduceEq, Int.reduceToNat, Int.reduceAdd, Int.reduceSub, Int.reduceMul, Int.reduceNeg, reduceCtorEq, Option.bind_some, Option.map_some, List.length_cons, List.length_nil, vcM, List.getElem?_toArray, List.getElem?_cons_zero, List.getElem?_cons_succ])
          (refine W_at c3_ok ?_; refine ⟨_, rfl, ?_⟩; simp (disch := first | omega | assumption | rfl | (simp only [vcS] <;> omega) | fail) only [↓ptV_l, ↓vcA, vcB, ↓vcD, vcE, ↓reduceIte, Nat.reduceEqDiff, Nat.reduceAdd, Nat.reduceMul, Nat.reduceLeDiff, Int.reduceLE, Int.reduceLT, Int.reduceEq, Int.reduceToNat, Int.reduceAdd, Int.reduceSub, Int.reduceMul, Int.reduceNeg, reduceCtorEq, Option.bind_some, Option.map_some, List.length_cons, List.length_nil, vcM, List.getElem?_toArray, List.getElem?_cons_zero, List.getElem?_cons_succ])
          (refine W_at c3_ok ?_; refine ⟨_, rfl, ?_⟩; simp (disch := first | omega | assumption | rfl | (simp only [vcS] <;> omega) | fail) only [↓ptV_l, ↓vcA, vcB, ↓vcD, vcE, ↓reduceIte, Nat.reduceEqDiff, Nat.reduceAdd, Nat.reduceMul, Nat.reduceLeDiff, Int.reduceLE, Int.reduceLT, Int.reduceEq, Int.reduceToNat, Int.reduceAdd, Int.reduceSub, Int.reduceMul, Int.reduceNeg, reduceCtorEq, Option.bind_some, Option.map_some, List.length_cons, List.length_nil, vcM, List.getElem?_toArray, List.getElem?_cons_zero, List.getElem?_cons_succ])
          have hroom : b.length + 6 ≤ 64 * secs d.n := by rw [hn]; have : secs 2000 = 999 := rfl; omega
          refine callV_ret (Compact_ok wa jp p r sv rv qv J d _ b hSa.j hSa.d hG hxs hbb (by omega)) ?_
          intro u wb hAp
          obtain ⟨rfl, d', hG', hl', hn', hT'⟩ := cmpR_quiet hl (by omega) hroom hAp
          obtain ⟨sv', rv', qv', hSt⟩ := JTo.step hSa hbase hT'
          have h6b := hSt.keep.at h6a (hSa.nb h6a (by decide) (by decide) (by decide) (by decide))
          have hEwb : Ext w wb := hEwa.trans hSt.keep fun i hi hg => by have := hSa.base i hg; omega
          first | (simp (disch := first | omega | assumption | rfl | (simp only [vcS] <;> omega) | fail) only [↓ptV_l, ↓vcA, vcB, ↓vcD, vcE, ↓reduceIte, Nat.reduceEqDiff, Nat.reduceAdd, Nat.reduceMul, Nat.reduceLeDiff, Int.reduceLE, Int.reduceLT, Int.reduceEq, Int.reduceToNat, Int.reduceAdd, Int.reduceSub, Int.reduceMul, Int.reduceNeg, reduceCtorEq, Option.bind_some, Option.map_some, List.length_cons, List.length_nil, vcM, List.getElem?_toArray, List.getElem?_cons_zero, List.getElem?_cons_succ]) | skip
          (refine W_at c3_ok ?_; refine ⟨_, rfl, ?_⟩; simp (disch := first | omega | assumption | rfl | (simp only [vcS] <;> omega) | fail) only [↓ptV_l, ↓vcA, vcB, ↓vcD, vcE, ↓reduceIte, Nat.reduceEqDiff, Nat.reduceAdd, Nat.reduceMul, Nat.reduceLeDiff, Int.reduceLE, Int.reduceLT, Int.reduceEq, Int.reduceToNat, Int.reduceAdd, Int.reduceSub, Int.reduceMul, Int.reduceNeg, reduceCtorEq, Option.bind_some, Option.map_some, List.length_cons, List.length_nil, vcM, List.getElem?_toArray, List.getElem?_cons_zero, List.getElem?_cons_succ])
          refine callV_ret (rcompact_ok wb vb b (hvb.ext hEwb) (by omega)) ?_
          rintro _ wc ⟨sw', rw', rfl, hTc, hEc⟩
          have h6c := hEc.at h6b (fun h => h)
          have s2' : (#[sw', rw'] : Array Value).size = 2 := rfl
          simp (disch := first | omega | assumption | rfl | (simp only [vcS] <;> omega) | fail) only [↓ptV_l, ↓vcA, vcB, ↓vcD, vcE, ↓reduceIte, Nat.reduceEqDiff, Nat.reduceAdd, Nat.reduceMul, Nat.reduceLeDiff, Int.reduceLE, Int.reduceLT, Int.reduceEq, Int.reduceToNat, Int.reduceAdd, Int.reduceSub, Int.reduceMul, Int.reduceNeg, reduceCtorEq, Option.bind_some, Option.map_some, List.length_cons, List.length_nil, vcM, List.getElem?_toArray, List.getElem?_cons_zero, List.getElem?_cons_succ, h6c, hok6, hx2, s2']
          refine ⟨⟨hTc.st.1.one, hTc.recs.one⟩, ?_⟩
          exact tail wb wc sv' rv' qv' sw' rw' (J.cmp b) d' hSt hG' hl' (hn'.trans hn) (Small.cmp hbl) hEc (hTc.mono fun x hx => .inr hx) h6c
        · (refine W_at c3_ok ?_; refine ⟨_, rfl, ?_⟩; simp (disch := first | omega | assumption | rfl | (simp only [vcS] <;> omega) | fail) only [↓ptV_l, ↓vcA, vcB, ↓vcD, vcE, ↓reduceIte, Nat.reduceEqDiff, Nat.reduceAdd, Nat.reduceMul, Nat.reduceLeDiff, Int.reduceLE, Int.reduceLT, Int.reduceEq, Int.reduceToNat, Int.reduceAdd, Int.reduceSub, Int.reduceMul, Int.reduceNeg, reduceCtorEq, Option.bind_some, Option.map_some, List.length_cons, List.length_nil, vcM, List.getElem?_toArray, List.getElem?_cons_zero, List.getElem?_cons_succ, k1])
          (refine W_at c3_ok ?_; refine ⟨_, rfl, ?_⟩; simp (disch := first | omega | assumption | rfl | (simp only [vcS] <;> omega) | fail) only [↓ptV_l, ↓vcA, vcB, ↓vcD, vcE, ↓reduceIte, Nat.reduceEqDiff, Nat.reduceAdd, Nat.reduceMul, Nat.reduceLeDiff, Int.reduceLE, Int.reduceLT, Int.reduceEq, Int.reduceToNat, Int.reduceAdd, Int.reduceSub, Int.reduceMul, Int.reduceNeg, reduceCtorEq, Option.bind_some, Option.map_some, List.length_cons, List.length_nil, vcM, List.getElem?_toArray, List.getElem?_cons_zero, List.getElem?_cons_succ])
          (refine W_at c3_ok ?_; refine ⟨_, rfl, ?_⟩; simp (disch := first | omega | assumption | rfl | (simp only [vcS] <;> omega) | fail) only [↓ptV_l, ↓vcA, vcB, ↓vcD, vcE, ↓reduceIte, Nat.reduceEqDiff, Nat.reduceAdd, Nat.reduceMul, Nat.reduceLeDiff, Int.reduceLE, Int.reduceLT, Int.reduceEq, Int.reduceToNat, Int.reduceAdd, Int.reduceSub, Int.reduceMul, Int.reduceNeg, reduceCtorEq, Option.bind_some, Option.map_some, List.length_cons, List.length_nil, vcM, List.getElem?_toArray, List.getElem?_cons_zero, List.getElem?_cons_succ, k2])
          (refine W_at c3_ok ?_; refine ⟨_, rfl, ?_⟩; simp (disch := first | omega | assumption | rfl | (simp only [vcS] <;> omega) | fail) only [↓ptV_l, ↓vcA, vcB, ↓vcD, vcE, ↓reduceIte, Nat.reduceEqDiff, Nat.reduceAdd, Nat.reduceMul, Nat.reduceLeDiff, Int.reduceLE, Int.reduceLT, Int.reduceEq, Int.reduceToNat, Int.reduceAdd, Int.reduceSub, Int.reduceMul, Int.reduceNeg, reduceCtorEq, Option.bind_some, Option.map_some, List.length_cons, List.length_nil, vcM, List.getElem?_toArray, List.getElem?_cons_zero, List.getElem?_cons_succ])
          (refine W_at c3_ok ?_; refine ⟨_, rfl, ?_⟩; simp (disch := first | omega | assumption | rfl | (simp only [vcS] <;> omega) | fail) only [↓ptV_l, ↓vcA, vcB, ↓vcD, vcE, ↓reduceIte, Nat.reduceEqDiff, Nat.reduceAdd, Nat.reduceMul, Nat.reduceLeDiff, Int.reduceLE, Int.reduceLT, Int.reduceEq, Int.reduceToNat, Int.reduceAdd, Int.reduceSub, Int.reduceMul, Int.reduceNeg, reduceCtorEq, Option.bind_some, Option.map_some, List.length_cons, List.length_nil, vcM, List.getElem?_toArray, List.getElem?_cons_zero, List.getElem?_cons_succ])
          refine callV_ret (open_ok' wa p r qv d J hSa.d hG.inv hG.queue hG.alive) ?_
          intro u wb hO
          obtain ⟨jp', sv', rv', rfl, hSb, hEb, hrn, hin⟩ := OpenR.sys (base := w.heap.size) hSa.d hbase (fun x hx => hSa.base x (.inr (.inl hx))) hO
          first | (simp (disch := first | omega | assumption | rfl | (simp only [vcS] <;> omega) | fail) only [↓ptV_l, ↓vcA, vcB, ↓vcD, vcE, ↓reduceIte, Nat.reduceEqDiff, Nat.reduceAdd, Nat.reduceMul, Nat.reduceLeDiff, Int.reduceLE, Int.reduceLT, Int.reduceEq, Int.reduceToNat, Int.reduceAdd, Int.reduceSub, Int.reduceMul, Int.reduceNeg, reduceCtorEq, Option.bind_some, Option.map_some, List.length_cons, List.length_nil, vcM, List.getElem?_toArray, List.getElem?_cons_zero, List.getElem?_cons_succ]) | skip
          have hjn : wa.heap.size ≤ jp' := by obtain ⟨_, _, _, e, _, _, h, _⟩ := hO; injection e with e; injection e with e; simp at e; omega
          refine rest wb jp' sv' rv' qv sw rw vb J d g hSb hG hl hn hsm.next ((hTa.ext hEb).mono fun x hx => ?_) (hin.mono fun x hx => ?_) (fun x hx => ?_) (by omega) (by have := hE.size; omega) (hEb.at h6a fun h => h) (hEwa.ext hEb) (hvb.ext (hEwa.ext hEb)) (hall.ext hEb)
          · obtain ⟨h1, h2⟩ := hx
            refine ⟨fun hb => ?_, by omega⟩
            have := hrn x hb
            have := hEa.size; omega
          · show x ≠ g
            have : wa.heap.size ≤ x := hx
            omega
          · rcases hx with rfl | hx | hx
            · omega
            · have := hDB _ hx; omega
            · have := hrn x hx; omega
  exact L 30 0 w4 jp sv rv _ _ _ J0 d0 (by omega) hS4 hG0 hl0 hn0 ⟨by simp [J0], by simp [J0], by simp [J0], fun b hb => by cases hb⟩ (TAt.nil _ _) hp6 hEE4
end Go.Proofs
