/- A journal's 'Append'. -/
import Derived.Test.YtfackfekmadjbaaJ7
set_option linter.unusedSimpArgs false
set_option linter.unusedVariables false
set_option linter.constructorNameAsVariable false
namespace Go.Proofs
open Go.Vc
set_option maxRecDepth 10000

/-- Bytes in a block of bytes, be it a marked one. -/
def ByX (w : World) (v : Value) (bs : List Int) : Prop := Rd w v bs ∧ ∀ g, blk v g → ∃ c fr, w.heap[g]? = some (.cells c 5 fr)
theorem ByT.x {w : World} {v : Value} {bs : List Int} (h : ByT w v bs) : ByX w v bs := ⟨h.1, fun g hg => (h.2 g hg).elim fun c hc => ⟨c, _, hc⟩⟩
theorem ByX.keep {S : Nat → Prop} {w w' : World} {v : Value} {bs : List Int} (h : ByX w v bs) (k : Keep S w w') (hS : ∀ g c fr, w.heap[g]? = some (.cells c 5 fr) → ¬ S g) : ByX w' v bs := by
  have hb : ∀ g, blk v g → ¬ S g := fun g hg => by
    obtain ⟨c, fr, hc⟩ := h.2 g hg
    exact hS g c fr hc
  refine ⟨h.1.keep k fun q n c e => hb _ (by rw [e]; rfl), fun g hg => ?_⟩
  obtain ⟨c, fr, hc⟩ := h.2 g hg
  exact ⟨c, fr, k.at hc (hb g hg)⟩
theorem ByX.ext {w w' : World} {v : Value} {bs : List Int} (h : ByX w v bs) (k : Ext w w') : ByX w' v bs := h.keep k fun _ _ _ _ h => h
theorem DAt.nobX {w : World} {p r : Nat} {qv : Value} {d : DS} (hd : DAt w p r qv d) {g : Nat} {c : Array Value} {fr : Nat × Nat} (hg : w.heap[g]? = some (.cells c 5 fr)) : ¬ DB p r qv g := fun hb => by
  rcases hd.kind hb with ⟨es, c2, e⟩ | ⟨c2, t2, e, ht⟩
  · rw [hg] at e; cases e
  · rw [hg] at e
    cases e
    rcases ht with h | h <;> exact absurd h (by decide)
/-- The blocks of a journal's bytes are of a kind. -/
def JIn (B : Nat → Prop) (w : World) (jp : Nat) : Prop := ∃ c0 c1 c2 sv rv, w.heap[jp]? = some (.cells #[c0, c1, c2, sv, rv] 62 (0, 0)) ∧ (∀ g, blk sv g → B g) ∧ ∃ vs : List Value, OwnO w 0 30 1 rv (vs.map fun v => #[v]) ∧ ∀ v ∈ vs, ∀ g, blk v g → B g
theorem vs_inj {a b : List Value} (h : ((a.map fun v => (#[v] : Array Value)).flatMap Array.toList).toArray = ((b.map fun v => (#[v] : Array Value)).flatMap Array.toList).toArray) : a = b := by
  have e : ∀ l : List Value, (l.map fun v => (#[v] : Array Value)).flatMap Array.toList = l := by
    intro l
    induction l with
    | nil => rfl
    | cons x l ih => simp only [List.map_cons, List.flatMap_cons, ih]; rfl
  have h2 := congrArg Array.toList h
  rw [e, e] at h2
  exact h2
theorem JIn.is {B : Nat → Prop} {w : World} {jp p : Nat} {sv rv : Value} {J : JS} {vs : List Value} (h : JIn B w jp) (hj : JAt w jp p sv rv J) (hO : OwnO w 0 30 1 rv (vs.map fun v => #[v])) : (∀ g, blk sv g → B g) ∧ ∀ v ∈ vs, ∀ g, blk v g → B g := by
  obtain ⟨c0, c1, c2, sv2, rv2, h1, h2, vs2, h3, h4⟩ := h
  rw [hj.obj] at h1
  simp only [Option.some.injEq, Obj.cells.injEq, Array.mk.injEq, List.cons.injEq] at h1
  obtain ⟨⟨_, _, _, rfl, rfl, _⟩, _⟩ := h1
  have e := h3.rd
  rw [hO.rd] at e
  rw [vs_inj (Option.some.inj e)]
  exact ⟨h2, h4⟩
theorem JIn.keep {S : Nat → Prop} {B : Nat → Prop} {w w' : World} {jp : Nat} (h : JIn B w jp) (k : Keep S w w') (h1 : ¬ S jp) (h3 : ∀ g c, w.heap[g]? = some (.cells c 30 (0, 0)) → ¬ S g) : JIn B w' jp := by
  obtain ⟨c0, c1, c2, sv, rv, h0, h2, vs, hO, h4⟩ := h
  exact ⟨c0, c1, c2, sv, rv, k.at h0 h1, h2, vs, hO.keep k fun g hg => (hO.blk hg).2.elim fun c hc => h3 g c hc, h4⟩
theorem JIn.ext {B : Nat → Prop} {w w' : World} {jp : Nat} (h : JIn B w jp) (k : Ext w w') : JIn B w' jp := h.keep k (fun h => h) fun _ _ _ h => h
theorem JIn.mono {B B' : Nat → Prop} {w : World} {jp : Nat} (h : JIn B w jp) (k : ∀ g, B g → B' g) : JIn B' w jp := by
  obtain ⟨c0, c1, c2, sv, rv, h0, h2, vs, hO, h4⟩ := h
  exact ⟨c0, c1, c2, sv, rv, h0, fun g hg => k g (h2 g hg), vs, hO, fun v hv g hg => k g (h4 v hv g hg)⟩
def JB (jp p r : Nat) (rv qv : Value) (g : Nat) : Prop := g = jp ∨ DB p r qv g ∨ blk rv g
structure JTo (w w' : World) (jp p r : Nat) (rv qv : Value) (J' : JS) (d' : DS) : Prop where
  to : ∃ sv' rv' qv', JAt w' jp p sv' rv' J' ∧ DAt w' p r qv' d' ∧ (∀ g, blk qv' g → blk qv g ∨ w.heap.size ≤ g) ∧ (∀ g, blk rv' g → blk rv g ∨ w.heap.size ≤ g)
  keep : Keep (JB jp p r rv qv) w w'
  ins : ∀ B : Nat → Prop, JIn B w jp → (∀ g, w.heap.size ≤ g → B g) → JIn B w' jp
theorem RowsT.blk {w : World} {rv : Value} {rs : List (List Int)} (h : RowsT w rv rs) {g : Nat} (hg : Go.Proofs.blk rv g) : ∃ c, w.heap[g]? = some (.cells c 30 (0, 0)) := by
  obtain ⟨vs, h1, _⟩ := h
  exact (h1.blk hg).2
theorem JAt.nerv {w : World} {jp p : Nat} {sv rv : Value} {J : JS} (h : JAt w jp p sv rv J) : ¬ blk rv jp := fun hb => by
  obtain ⟨c, hc⟩ := h.recs.blk hb
  rw [h.obj] at hc
  cases hc
theorem DTo.jto {w w' : World} {jp p r : Nat} {sv rv qv : Value} {J : JS} {d d' : DS} (h : JAt w jp p sv rv J) (hD : DAt w p r qv d) (hT : DTo w w' p r qv d') : JTo w w' jp p r rv qv J d' := by
  obtain ⟨qv', h1, h2, h3⟩ := hT
  exact ⟨⟨sv, rv, qv', h.disk hD h2, h1, h3, fun g hg => .inl hg⟩, h2.mono fun g hg => .inr (.inl hg), fun B hB _ => hB.keep h2 (hD.nob h.obj (by decide) (by decide)) fun g c hg => hD.nob hg (by decide) (by decide)⟩
def AppR (w w' : World) (jp p r : Nat) (rv qv : Value) (J : JS) (d : DS) (b : List Int) (u : Value) : Prop := ∃ e, u = .int .i64 e ∧
  ((65535 < b.length ∧ e = 2 ∧ Ext w w') ∨ (b.length ≤ 65535 ∧ roomF d J < (b.length : Nat) ∧ e = 9 ∧ Ext w w') ∨
   (b.length ≤ 65535 ∧ ((b.length : Nat) : Int) ≤ roomF d J ∧ ∃ d', AppTo d d' J (J.app b) e ∧ JTo w w' jp p r rv qv (if e = 0 then J.app b else J) d'))
/-- One more in a row of slices. -/
theorem appRow {w : World} {base : Nat} {rv v : Value} {vs : List Value} {K : Value → World → Prop} (h : OwnO w base 30 1 rv (vs.map fun v => #[v])) (hv : v.oneCell' = true) (hl : vs.length ≤ 100000000) (hbase : base ≤ w.heap.size)
    (hk : ∀ rv' w', OwnO w' base 30 1 rv' ((vs ++ [v]).map fun v => #[v]) → Keep (blk rv) w w' → (∀ g, blk rv' g → blk rv g ∨ w.heap.size ≤ g) → K rv' w') :
    appV 30 1 24 [Value.slice none 0 0] rv (.slice (some ⟨w.heap.size, 0, none⟩) 1 1) (w.alloc (.cells #[v] 30)) K := by
  have hll : (vs.map fun v => (#[v] : Array Value)).length = vs.length := List.length_map _
  refine appO (cs := [v]) h rfl (by rw [show ([v] : List Value).toArray = #[v] from rfl, flat_1]; exact hv) (by rw [hll]; omega) (by rw [hll]; omega) rfl hbase (by decide) fun rv' w' h1 h2 h3 => hk rv' w' ?_ h2 h3
  rw [List.map_append]
  exact h1
theorem RowsT.app {w w' : World} {rv v : Value} {vs : List Value} {rs : List (List Int)} {b : List Int} (h : OwnO w 0 30 1 rv (vs.map fun v => #[v])) (ha : AllB w vs rs) (hv : ByT w v b) (k : Keep (Go.Proofs.blk rv) w w') : AllB w' (vs ++ [v]) (rs ++ [b]) := by
  have nb : ∀ g c, w.heap[g]? = some (.cells c 5 (0, 0)) → ¬ Go.Proofs.blk rv g := fun g c hg hb => by
    obtain ⟨c', hc⟩ := (h.blk hb).2
    rw [hg] at hc
    cases hc
  exact forall2_app (forall2_keep ha fun v bs hb => hb.keep k nb) (hv.keep k nb)
set_option maxHeartbeats 1600000 in
theorem Append_ok (w : World) (jp p r : Nat) (sv rv qv : Value) (J : JS) (d : DS) (x : Value) (b : List Int) (h : JAt w jp p sv rv J) (hD : DAt w p r qv d) (hG : Good d J) (hx : ByX w x b) (hb : byt b) (hrl : J.recs.length ≤ 1000000) :
    Calls Try.prog 12 #[.pointer (some ⟨jp, 0, none⟩), x] w (Ret fun u w' => AppR w w' jp p r rv qv J d b u) := by
  refine calls_of_cfg c12_ok (Nat.le_of_ble_eq_true rfl) ?_
  simp only [argE_nil, argE_cons, Nat.reduceAdd, Nat.zero_add]
  have hI := hG.inv
  have hn := hI.n
  have hk := hI.ok
  have hs := secs_b hk.n
  have hrm := hI.room
  have ho := h.obj
  have hlen := hx.1.len
  have hE0 : Ext w w.drew := (Keep.refl _ w).drew
  (refine W_at c12_ok ?_; refine ⟨_, rfl, ?_⟩; simp (disch := first | omega | assumption | rfl | (simp only [vcS] <;> omega) | fail) only [↓ptV_l, ↓vcA, vcB, ↓vcD, vcE, ↓reduceIte, Nat.reduceEqDiff, Nat.reduceAdd, Nat.reduceMul, Nat.reduceLeDiff, Int.reduceLE, Int.reduceLT, Int.reduceEq, Int.reduceToNat, Int.reduceAdd, Int.reduceSub, Int.reduceMul, Int.reduceNeg, reduceCtorEq, Option.bind_some, Option.map_some, List.length_cons, List.length_nil, vcM, List.getElem?_toArray, List.getElem?_cons_zero, List.getElem?_cons_succ])
  by_cases hbig : ((b.length : Nat) : Int) > 65535
  · (refine W_at c12_ok ?_; refine ⟨_, rfl, ?_⟩; simp (disch := first | omega | assumption | rfl | (simp only [vcS] <;> omega) | fail) only [↓ptV_l, ↓vcA, vcB, ↓vcD, vcE, ↓reduceIte, Nat.reduceEqDiff, Nat.reduceAdd, Nat.reduceMul, Nat.reduceLeDiff, Int.reduceLE, Int.reduceLT, Int.reduceEq, Int.reduceToNat, Int.reduceAdd, Int.reduceSub, Int.reduceMul, Int.reduceNeg, reduceCtorEq, Option.bind_some, Option.map_some, List.length_cons, List.length_nil, vcM, List.getElem?_toArray, List.getElem?_cons_zero, List.getElem?_cons_succ, hlen, hbig])
    (refine W_at c12_ok ?_; refine ⟨_, rfl, ?_⟩; simp (disch := first | omega | assumption | rfl | (simp only [vcS] <;> omega) | fail) only [↓ptV_l, ↓vcA, vcB, ↓vcD, vcE, ↓reduceIte, Nat.reduceEqDiff, Nat.reduceAdd, Nat.reduceMul, Nat.reduceLeDiff, Int.reduceLE, Int.reduceLT, Int.reduceEq, Int.reduceToNat, Int.reduceAdd, Int.reduceSub, Int.reduceMul, Int.reduceNeg, reduceCtorEq, Option.bind_some, Option.map_some, List.length_cons, List.length_nil, vcM, List.getElem?_toArray, List.getElem?_cons_zero, List.getElem?_cons_succ])
    (refine W_at c12_ok ?_; refine ⟨_, rfl, ?_⟩; simp (disch := first | omega | assumption | rfl | (simp only [vcS] <;> omega) | fail) only [↓ptV_l, ↓vcA, vcB, ↓vcD, vcE, ↓reduceIte, Nat.reduceEqDiff, Nat.reduceAdd, Nat.reduceMul, Nat.reduceLeDiff, Int.reduceLE, Int.reduceLT, Int.reduceEq, Int.reduceToNat, Int.reduceAdd, Int.reduceSub, Int.reduceMul, Int.reduceNeg, reduceCtorEq, Option.bind_some, Option.map_some, List.length_cons, List.length_nil, vcM, List.getElem?_toArray, List.getElem?_cons_zero, List.getElem?_cons_succ])
    (refine W_at c12_ok ?_; refine ⟨_, rfl, ?_⟩; simp (disch := first | omega | assumption | rfl | (simp only [vcS] <;> omega) | fail) only [↓ptV_l, ↓vcA, vcB, ↓vcD, vcE, ↓reduceIte, Nat.reduceEqDiff, Nat.reduceAdd, Nat.reduceMul, Nat.reduceLeDiff, Int.reduceLE, Int.reduceLT, Int.reduceEq, Int.reduceToNat, Int.reduceAdd, Int.reduceSub, Int.reduceMul, Int.reduceNeg, reduceCtorEq, Option.bind_some, Option.map_some, List.length_cons, List.length_nil, vcM, List.getElem?_toArray, List.getElem?_cons_zero, List.getElem?_cons_succ, Ret_returned])
    exact ⟨2, rfl, .inl ⟨by omega, rfl, Keep.refl _ w⟩⟩
  (refine W_at c12_ok ?_; refine ⟨_, rfl, ?_⟩; simp (disch := first | omega | assumption | rfl | (simp only [vcS] <;> omega) | fail) only [↓ptV_l, ↓vcA, vcB, ↓vcD, vcE, ↓reduceIte, Nat.reduceEqDiff, Nat.reduceAdd, Nat.reduceMul, Nat.reduceLeDiff, Int.reduceLE, Int.reduceLT, Int.reduceEq, Int.reduceToNat, Int.reduceAdd, Int.reduceSub, Int.reduceMul, Int.reduceNeg, reduceCtorEq, Option.bind_some, Option.map_some, List.length_cons, List.length_nil, vcM, List.getElem?_toArray, List.getElem?_cons_zero, List.getElem?_cons_succ, hlen, hbig])
  (refine W_at c12_ok ?_; refine ⟨_, rfl, ?_⟩; simp (disch := first | omega | assumption | rfl | (simp only [vcS] <;> omega) | fail) only [↓ptV_l, ↓vcA, vcB, ↓vcD, vcE, ↓reduceIte, Nat.reduceEqDiff, Nat.reduceAdd, Nat.reduceMul, Nat.reduceLeDiff, Int.reduceLE, Int.reduceLT, Int.reduceEq, Int.reduceToNat, Int.reduceAdd, Int.reduceSub, Int.reduceMul, Int.reduceNeg, reduceCtorEq, Option.bind_some, Option.map_some, List.length_cons, List.length_nil, vcM, List.getElem?_toArray, List.getElem?_cons_zero, List.getElem?_cons_succ])
  (refine W_at c12_ok ?_; refine ⟨_, rfl, ?_⟩; simp (disch := first | omega | assumption | rfl | (simp only [vcS] <;> omega) | fail) only [↓ptV_l, ↓vcA, vcB, ↓vcD, vcE, ↓reduceIte, Nat.reduceEqDiff, Nat.reduceAdd, Nat.reduceMul, Nat.reduceLeDiff, Int.reduceLE, Int.reduceLT, Int.reduceEq, Int.reduceToNat, Int.reduceAdd, Int.reduceSub, Int.reduceMul, Int.reduceNeg, reduceCtorEq, Option.bind_some, Option.map_some, List.length_cons, List.length_nil, vcM, List.getElem?_toArray, List.getElem?_cons_zero, List.getElem?_cons_succ, hlen])
  refine callV_ret (Room_ok w jp p r sv rv qv J d h hD hk hn (by omega)) ?_
  rintro _ w1 ⟨rfl, hE1⟩
  by_cases hrf : ((b.length : Nat) : Int) > roomF d J
  · simp (disch := first | omega | assumption | rfl | (simp only [vcS] <;> omega) | fail) only [↓ptV_l, ↓vcA, vcB, ↓vcD, vcE, ↓reduceIte, Nat.reduceEqDiff, Nat.reduceAdd, Nat.reduceMul, Nat.reduceLeDiff, Int.reduceLE, Int.reduceLT, Int.reduceEq, Int.reduceToNat, Int.reduceAdd, Int.reduceSub, Int.reduceMul, Int.reduceNeg, reduceCtorEq, Option.bind_some, Option.map_some, List.length_cons, List.length_nil, vcM, List.getElem?_toArray, List.getElem?_cons_zero, List.getElem?_cons_succ, hrf]
    (refine W_at c12_ok ?_; refine ⟨_, rfl, ?_⟩; simp (disch := first | omega | assumption | rfl | (simp only [vcS] <;> omega) | fail) only [↓ptV_l, ↓vcA, vcB, ↓vcD, vcE, ↓reduceIte, Nat.reduceEqDiff, Nat.reduceAdd, Nat.reduceMul, Nat.reduceLeDiff, Int.reduceLE, Int.reduceLT, Int.reduceEq, Int.reduceToNat, Int.reduceAdd, Int.reduceSub, Int.reduceMul, Int.reduceNeg, reduceCtorEq, Option.bind_some, Option.map_some, List.length_cons, List.length_nil, vcM, List.getElem?_toArray, List.getElem?_cons_zero, List.getElem?_cons_succ])
    (refine W_at c12_ok ?_; refine ⟨_, rfl, ?_⟩; simp (disch := first | omega | assumption | rfl | (simp only [vcS] <;> omega) | fail) only [↓ptV_l, ↓vcA, vcB, ↓vcD, vcE, ↓reduceIte, Nat.reduceEqDiff, Nat.reduceAdd, Nat.reduceMul, Nat.reduceLeDiff, Int.reduceLE, Int.reduceLT, Int.reduceEq, Int.reduceToNat, Int.reduceAdd, Int.reduceSub, Int.reduceMul, Int.reduceNeg, reduceCtorEq, Option.bind_some, Option.map_some, List.length_cons, List.length_nil, vcM, List.getElem?_toArray, List.getElem?_cons_zero, List.getElem?_cons_succ])
    (refine W_at c12_ok ?_; refine ⟨_, rfl, ?_⟩; simp (disch := first | omega | assumption | rfl | (simp only [vcS] <;> omega) | fail) only [↓ptV_l, ↓vcA, vcB, ↓vcD, vcE, ↓reduceIte, Nat.reduceEqDiff, Nat.reduceAdd, Nat.reduceMul, Nat.reduceLeDiff, Int.reduceLE, Int.reduceLT, Int.reduceEq, Int.reduceToNat, Int.reduceAdd, Int.reduceSub, Int.reduceMul, Int.reduceNeg, reduceCtorEq, Option.bind_some, Option.map_some, List.length_cons, List.length_nil, vcM, List.getElem?_toArray, List.getElem?_cons_zero, List.getElem?_cons_succ, Ret_returned])
    exact ⟨9, rfl, .inr (.inl ⟨by omega, by omega, rfl, hE1⟩)⟩
  simp (disch := first | omega | assumption | rfl | (simp only [vcS] <;> omega) | fail) only [↓ptV_l, ↓vcA, vcB, ↓vcD, vcE, ↓reduceIte, Nat.reduceEqDiff, Nat.reduceAdd, Nat.reduceMul, Nat.reduceLeDiff, Int.reduceLE, Int.reduceLT, Int.reduceEq, Int.reduceToNat, Int.reduceAdd, Int.reduceSub, Int.reduceMul, Int.reduceNeg, reduceCtorEq, Option.bind_some, Option.map_some, List.length_cons, List.length_nil, vcM, List.getElem?_toArray, List.getElem?_cons_zero, List.getElem?_cons_succ, hrf]
  have hroom : J.pos + 6 + b.length ≤ 64 * secs d.n := by unfold roomF at hrf; omega
  have hj1 := h.ext hE1
  have ho1 := hj1.obj
  (refine W_at c12_ok ?_; refine ⟨_, rfl, ?_⟩; simp (disch := first | omega | assumption | rfl | (simp only [vcS] <;> omega) | fail) only [↓ptV_l, ↓vcA, vcB, ↓vcD, vcE, ↓reduceIte, Nat.reduceEqDiff, Nat.reduceAdd, Nat.reduceMul, Nat.reduceLeDiff, Int.reduceLE, Int.reduceLT, Int.reduceEq, Int.reduceToNat, Int.reduceAdd, Int.reduceSub, Int.reduceMul, Int.reduceNeg, reduceCtorEq, Option.bind_some, Option.map_some, List.length_cons, List.length_nil, vcM, List.getElem?_toArray, List.getElem?_cons_zero, List.getElem?_cons_succ])
  (refine W_at c12_ok ?_; refine ⟨_, rfl, ?_⟩; simp (disch := first | omega | assumption | rfl | (simp only [vcS] <;> omega) | fail) only [↓ptV_l, ↓vcA, vcB, ↓vcD, vcE, ↓reduceIte, Nat.reduceEqDiff, Nat.reduceAdd, Nat.reduceMul, Nat.reduceLeDiff, Int.reduceLE, Int.reduceLT, Int.reduceEq, Int.reduceToNat, Int.reduceAdd, Int.reduceSub, Int.reduceMul, Int.reduceNeg, reduceCtorEq, Option.bind_some, Option.map_some, List.length_cons, List.length_nil, vcM, List.getElem?_toArray, List.getElem?_cons_zero, List.getElem?_cons_succ, ho1])
  have hE1d : Ext w w1.drew := hE1.drew
  refine callV_ret (frame_ok w1.drew 0 x b (hx.1.ext hE1d) (by decide) (by omega)) ?_
  intro v w2 hN
  have hE2 : Ext w w2 := hE1d.ext hN.ext
  have hj2 := h.ext hE2
  have hD2 := hD.ext hE2
  have ho2 := hj2.obj
  simp (disch := first | omega | assumption | rfl | (simp only [vcS] <;> omega) | fail) only [↓ptV_l, ↓vcA, vcB, ↓vcD, vcE, ↓reduceIte, Nat.reduceEqDiff, Nat.reduceAdd, Nat.reduceMul, Nat.reduceLeDiff, Int.reduceLE, Int.reduceLT, Int.reduceEq, Int.reduceToNat, Int.reduceAdd, Int.reduceSub, Int.reduceMul, Int.reduceNeg, reduceCtorEq, Option.bind_some, Option.map_some, List.length_cons, List.length_nil, vcM, List.getElem?_toArray, List.getElem?_cons_zero, List.getElem?_cons_succ, ho2]
  refine callV_ret (safe_ok w2 jp p r sv rv qv J d J.head J.pos v (appF b) hj2 hD2 hk hn hG.alive hG.queue (by have := hI.head; omega) hN.own.rd ?_ (by rw [appF_len]; omega) (by rw [appF_len]; omega)) ?_
  · intro y hy
    unfold appF at hy
    rcases List.mem_cons.1 hy with rfl | hy
    · omega
    · exact byt_app (tail1_byt hb) (fun z hz => by rw [List.mem_singleton.1 hz]; omega) y hy
  rintro _ w3 ⟨d1, e, rfl, hT1, hS1⟩
  have hT1 := DTo.after (hE2.mono fun _ h => h.elim) hT1
  first | (simp (disch := first | omega | assumption | rfl | (simp only [vcS] <;> omega) | fail) only [↓ptV_l, ↓vcA, vcB, ↓vcD, vcE, ↓reduceIte, Nat.reduceEqDiff, Nat.reduceAdd, Nat.reduceMul, Nat.reduceLeDiff, Int.reduceLE, Int.reduceLT, Int.reduceEq, Int.reduceToNat, Int.reduceAdd, Int.reduceSub, Int.reduceMul, Int.reduceNeg, reduceCtorEq, Option.bind_some, Option.map_some, List.length_cons, List.length_nil, vcM, List.getElem?_toArray, List.getElem?_cons_zero, List.getElem?_cons_succ]) | skip
  rcases hS1.res with ⟨rfl, ha1, hq1, _⟩ | ⟨rfl, _, _⟩
  case inr =>
    (refine W_at c12_ok ?_; refine ⟨_, rfl, ?_⟩; simp (disch := first | omega | assumption | rfl | (simp only [vcS] <;> omega) | fail) only [↓ptV_l, ↓vcA, vcB, ↓vcD, vcE, ↓reduceIte, Nat.reduceEqDiff, Nat.reduceAdd, Nat.reduceMul, Nat.reduceLeDiff, Int.reduceLE, Int.reduceLT, Int.reduceEq, Int.reduceToNat, Int.reduceAdd, Int.reduceSub, Int.reduceMul, Int.reduceNeg, reduceCtorEq, Option.bind_some, Option.map_some, List.length_cons, List.length_nil, vcM, List.getElem?_toArray, List.getElem?_cons_zero, List.getElem?_cons_succ])
    (refine W_at c12_ok ?_; refine ⟨_, rfl, ?_⟩; simp (disch := first | omega | assumption | rfl | (simp only [vcS] <;> omega) | fail) only [↓ptV_l, ↓vcA, vcB, ↓vcD, vcE, ↓reduceIte, Nat.reduceEqDiff, Nat.reduceAdd, Nat.reduceMul, Nat.reduceLeDiff, Int.reduceLE, Int.reduceLT, Int.reduceEq, Int.reduceToNat, Int.reduceAdd, Int.reduceSub, Int.reduceMul, Int.reduceNeg, reduceCtorEq, Option.bind_some, Option.map_some, List.length_cons, List.length_nil, vcM, List.getElem?_toArray, List.getElem?_cons_zero, List.getElem?_cons_succ])
    (refine W_at c12_ok ?_; refine ⟨_, rfl, ?_⟩; simp (disch := first | omega | assumption | rfl | (simp only [vcS] <;> omega) | fail) only [↓ptV_l, ↓vcA, vcB, ↓vcD, vcE, ↓reduceIte, Nat.reduceEqDiff, Nat.reduceAdd, Nat.reduceMul, Nat.reduceLeDiff, Int.reduceLE, Int.reduceLT, Int.reduceEq, Int.reduceToNat, Int.reduceAdd, Int.reduceSub, Int.reduceMul, Int.reduceNeg, reduceCtorEq, Option.bind_some, Option.map_some, List.length_cons, List.length_nil, vcM, List.getElem?_toArray, List.getElem?_cons_zero, List.getElem?_cons_succ])
    (refine W_at c12_ok ?_; refine ⟨_, rfl, ?_⟩; simp (disch := first | omega | assumption | rfl | (simp only [vcS] <;> omega) | fail) only [↓ptV_l, ↓vcA, vcB, ↓vcD, vcE, ↓reduceIte, Nat.reduceEqDiff, Nat.reduceAdd, Nat.reduceMul, Nat.reduceLeDiff, Int.reduceLE, Int.reduceLT, Int.reduceEq, Int.reduceToNat, Int.reduceAdd, Int.reduceSub, Int.reduceMul, Int.reduceNeg, reduceCtorEq, Option.bind_some, Option.map_some, List.length_cons, List.length_nil, vcM, List.getElem?_toArray, List.getElem?_cons_zero, List.getElem?_cons_succ, Ret_returned])
    exact ⟨10, rfl, .inr (.inr ⟨by omega, by omega, d1, app_die hG hS1 (by decide), hT1.jto h hD⟩)⟩
  obtain ⟨qv1, hD3, hk3, hb3⟩ := hT1
  have hj3 := h.disk hD hk3
  (refine W_at c12_ok ?_; refine ⟨_, rfl, ?_⟩; simp (disch := first | omega | assumption | rfl | (simp only [vcS] <;> omega) | fail) only [↓ptV_l, ↓vcA, vcB, ↓vcD, vcE, ↓reduceIte, Nat.reduceEqDiff, Nat.reduceAdd, Nat.reduceMul, Nat.reduceLeDiff, Int.reduceLE, Int.reduceLT, Int.reduceEq, Int.reduceToNat, Int.reduceAdd, Int.reduceSub, Int.reduceMul, Int.reduceNeg, reduceCtorEq, Option.bind_some, Option.map_some, List.length_cons, List.length_nil, vcM, List.getElem?_toArray, List.getElem?_cons_zero, List.getElem?_cons_succ])
  (refine W_at c12_ok ?_; refine ⟨_, rfl, ?_⟩; simp (disch := first | omega | assumption | rfl | (simp only [vcS] <;> omega) | fail) only [↓ptV_l, ↓vcA, vcB, ↓vcD, vcE, ↓reduceIte, Nat.reduceEqDiff, Nat.reduceAdd, Nat.reduceMul, Nat.reduceLeDiff, Int.reduceLE, Int.reduceLT, Int.reduceEq, Int.reduceToNat, Int.reduceAdd, Int.reduceSub, Int.reduceMul, Int.reduceNeg, reduceCtorEq, Option.bind_some, Option.map_some, List.length_cons, List.length_nil, vcM, List.getElem?_toArray, List.getElem?_cons_zero, List.getElem?_cons_succ])
  (refine W_at c12_ok ?_; refine ⟨_, rfl, ?_⟩; simp (disch := first | omega | assumption | rfl | (simp only [vcS] <;> omega) | fail) only [↓ptV_l, ↓vcA, vcB, ↓vcD, vcE, ↓reduceIte, Nat.reduceEqDiff, Nat.reduceAdd, Nat.reduceMul, Nat.reduceLeDiff, Int.reduceLE, Int.reduceLT, Int.reduceEq, Int.reduceToNat, Int.reduceAdd, Int.reduceSub, Int.reduceMul, Int.reduceNeg, reduceCtorEq, Option.bind_some, Option.map_some, List.length_cons, List.length_nil, vcM, List.getElem?_toArray, List.getElem?_cons_zero, List.getElem?_cons_succ])
  have hn1 := hS1.n
  refine callV_ret (mark_ok w3 jp p r sv rv qv1 J d1 hj3 hD3 hS1.ok (by omega) ha1 hq1 (by have := hI.head; omega) (by rw [hn1]; omega)) ?_
  rintro _ w4 ⟨d2, e2, rfl, hT2, hS2⟩
  have hap : appI d1 J = appI d J := by unfold appI; rw [hn1]
  rw [hap] at hS2
  have hA := app_to hG hb (by omega) hroom hS1 hS2
  have hT2 := DTo.trans hk3 hb3 hT2
  first | (simp (disch := first | omega | assumption | rfl | (simp only [vcS] <;> omega) | fail) only [↓ptV_l, ↓vcA, vcB, ↓vcD, vcE, ↓reduceIte, Nat.reduceEqDiff, Nat.reduceAdd, Nat.reduceMul, Nat.reduceLeDiff, Int.reduceLE, Int.reduceLT, Int.reduceEq, Int.reduceToNat, Int.reduceAdd, Int.reduceSub, Int.reduceMul, Int.reduceNeg, reduceCtorEq, Option.bind_some, Option.map_some, List.length_cons, List.length_nil, vcM, List.getElem?_toArray, List.getElem?_cons_zero, List.getElem?_cons_succ]) | skip
  rcases hS2.res with ⟨rfl, ha2, hq2, _⟩ | ⟨rfl, _, _⟩
  case inr =>
    (refine W_at c12_ok ?_; refine ⟨_, rfl, ?_⟩; simp (disch := first | omega | assumption | rfl | (simp only [vcS] <;> omega) | fail) only [↓ptV_l, ↓vcA, vcB, ↓vcD, vcE, ↓reduceIte, Nat.reduceEqDiff, Nat.reduceAdd, Nat.reduceMul, Nat.reduceLeDiff, Int.reduceLE, Int.reduceLT, Int.reduceEq, Int.reduceToNat, Int.reduceAdd, Int.reduceSub, Int.reduceMul, Int.reduceNeg, reduceCtorEq, Option.bind_some, Option.map_some, List.length_cons, List.length_nil, vcM, List.getElem?_toArray, List.getElem?_cons_zero, List.getElem?_cons_succ])
    (refine W_at c12_ok ?_; refine ⟨_, rfl, ?_⟩; simp (disch := first | omega | assumption | rfl | (simp only [vcS] <;> omega) | fail) only [↓ptV_l, ↓vcA, vcB, ↓vcD, vcE, ↓reduceIte, Nat.reduceEqDiff, Nat.reduceAdd, Nat.reduceMul, Nat.reduceLeDiff, Int.reduceLE, Int.reduceLT, Int.reduceEq, Int.reduceToNat, Int.reduceAdd, Int.reduceSub, Int.reduceMul, Int.reduceNeg, reduceCtorEq, Option.bind_some, Option.map_some, List.length_cons, List.length_nil, vcM, List.getElem?_toArray, List.getElem?_cons_zero, List.getElem?_cons_succ])
    (refine W_at c12_ok ?_; refine ⟨_, rfl, ?_⟩; simp (disch := first | omega | assumption | rfl | (simp only [vcS] <;> omega) | fail) only [↓ptV_l, ↓vcA, vcB, ↓vcD, vcE, ↓reduceIte, Nat.reduceEqDiff, Nat.reduceAdd, Nat.reduceMul, Nat.reduceLeDiff, Int.reduceLE, Int.reduceLT, Int.reduceEq, Int.reduceToNat, Int.reduceAdd, Int.reduceSub, Int.reduceMul, Int.reduceNeg, reduceCtorEq, Option.bind_some, Option.map_some, List.length_cons, List.length_nil, vcM, List.getElem?_toArray, List.getElem?_cons_zero, List.getElem?_cons_succ])
    (refine W_at c12_ok ?_; refine ⟨_, rfl, ?_⟩; simp (disch := first | omega | assumption | rfl | (simp only [vcS] <;> omega) | fail) only [↓ptV_l, ↓vcA, vcB, ↓vcD, vcE, ↓reduceIte, Nat.reduceEqDiff, Nat.reduceAdd, Nat.reduceMul, Nat.reduceLeDiff, Int.reduceLE, Int.reduceLT, Int.reduceEq, Int.reduceToNat, Int.reduceAdd, Int.reduceSub, Int.reduceMul, Int.reduceNeg, reduceCtorEq, Option.bind_some, Option.map_some, List.length_cons, List.length_nil, vcM, List.getElem?_toArray, List.getElem?_cons_zero, List.getElem?_cons_succ, Ret_returned])
    exact ⟨10, rfl, .inr (.inr ⟨by omega, by omega, d2, hA, hT2.jto h hD⟩)⟩
  obtain ⟨qv2, hD4, hk4, hb4⟩ := hT2
  have hj4 := h.disk hD hk4
  have ho4 := hj4.obj
  have hx4 : ByX w4 x b := hx.keep hk4 fun g c fr hg => hD.nobX hg
  have hw5 : IntKind.i64.wrap (5 + ((b.length : Nat) : Int)) = 5 + ((b.length : Nat) : Int) := wrap_i64 (by omega) (by omega)
  have hw6 : IntKind.i64.wrap (((J.pos : Nat) : Int) + (5 + ((b.length : Nat) : Int))) = ((J.pos + 5 + b.length : Nat) : Int) := by rw [wrap_i64 (by omega) (by omega)]; omega
  (refine W_at c12_ok ?_; refine ⟨_, rfl, ?_⟩; simp (disch := first | omega | assumption | rfl | (simp only [vcS] <;> omega) | fail) only [↓ptV_l, ↓vcA, vcB, ↓vcD, vcE, ↓reduceIte, Nat.reduceEqDiff, Nat.reduceAdd, Nat.reduceMul, Nat.reduceLeDiff, Int.reduceLE, Int.reduceLT, Int.reduceEq, Int.reduceToNat, Int.reduceAdd, Int.reduceSub, Int.reduceMul, Int.reduceNeg, reduceCtorEq, Option.bind_some, Option.map_some, List.length_cons, List.length_nil, vcM, List.getElem?_toArray, List.getElem?_cons_zero, List.getElem?_cons_succ])
  (refine W_at c12_ok ?_; refine ⟨_, rfl, ?_⟩; simp (disch := first | omega | assumption | rfl | (simp only [vcS] <;> omega) | fail) only [↓ptV_l, ↓vcA, vcB, ↓vcD, vcE, ↓reduceIte, Nat.reduceEqDiff, Nat.reduceAdd, Nat.reduceMul, Nat.reduceLeDiff, Int.reduceLE, Int.reduceLT, Int.reduceEq, Int.reduceToNat, Int.reduceAdd, Int.reduceSub, Int.reduceMul, Int.reduceNeg, reduceCtorEq, Option.bind_some, Option.map_some, List.length_cons, List.length_nil, vcM, List.getElem?_toArray, List.getElem?_cons_zero, List.getElem?_cons_succ])
  (refine W_at c12_ok ?_; refine ⟨_, rfl, ?_⟩; simp (disch := first | omega | assumption | rfl | (simp only [vcS] <;> omega) | fail) only [↓ptV_l, ↓vcA, vcB, ↓vcD, vcE, ↓reduceIte, Nat.reduceEqDiff, Nat.reduceAdd, Nat.reduceMul, Nat.reduceLeDiff, Int.reduceLE, Int.reduceLT, Int.reduceEq, Int.reduceToNat, Int.reduceAdd, Int.reduceSub, Int.reduceMul, Int.reduceNeg, reduceCtorEq, Option.bind_some, Option.map_some, List.length_cons, List.length_nil, vcM, List.getElem?_toArray, List.getElem?_cons_zero, List.getElem?_cons_succ, ho4, hlen, hw5, hw6])
  refine ⟨wr1_of ho4 (by simp), ?_⟩
  have ho5 : (w4.setCell ⟨jp, 2, none⟩ (.int .i64 ((J.pos + 5 + b.length : Nat) : Int))).heap[jp]? = some (.cells #[.pointer (some ⟨p, 0, none⟩), .int .u8 J.head, .int .i64 ((J.pos + 5 + b.length : Nat) : Int), sv, rv] 62 (0, 0)) := by rw [heap_setCell_eq ho4]; rfl
  have hk5 : Keep (fun g => g = jp) w4 (w4.setCell ⟨jp, 2, none⟩ (.int .i64 ((J.pos + 5 + b.length : Nat) : Int))) := (Keep.refl _ w4).setCell _ fun _ => rfl
  generalize World.setCell _ _ _ = w5 at ho5 hk5 ⊢
  (refine W_at c12_ok ?_; refine ⟨_, rfl, ?_⟩; simp (disch := first | omega | assumption | rfl | (simp only [vcS] <;> omega) | fail) only [↓ptV_l, ↓vcA, vcB, ↓vcD, vcE, ↓reduceIte, Nat.reduceEqDiff, Nat.reduceAdd, Nat.reduceMul, Nat.reduceLeDiff, Int.reduceLE, Int.reduceLT, Int.reduceEq, Int.reduceToNat, Int.reduceAdd, Int.reduceSub, Int.reduceMul, Int.reduceNeg, reduceCtorEq, Option.bind_some, Option.map_some, List.length_cons, List.length_nil, vcM, List.getElem?_toArray, List.getElem?_cons_zero, List.getElem?_cons_succ, ho5])
  have hk5d : Keep (fun g => g = jp) w4 w5.drew := hk5.drew
  have hx5 : ByX w5.drew x b := hx4.keep hk5d fun g c fr hg e => by rw [e, ho4] at hg; cases hg
  refine callV_ret (clone_ok w5.drew x b hx5.1 (by omega)) ?_
  rintro v w6 ⟨hv6, hE6, hn6⟩
  have ho6 := hE6.at (show w5.drew.heap[jp]? = _ from ho5) (fun h => h)
  obtain ⟨q, c, e, _⟩ := hv6.rd.is
  have hv1 : v.oneCell' = true := hv6.rd.one
  subst e
  have hA6 : ∀ o, (w6.alloc o).heap[jp]? = some (.cells #[.pointer (some ⟨p, 0, none⟩), .int .u8 J.head, .int .i64 ((J.pos + 5 + b.length : Nat) : Int), sv, rv] 62 (0, 0)) := fun o => (show Ext w6 (w6.alloc o) from (Keep.refl _ w6).alloc o).at ho6 (fun h => h)
  simp (disch := first | omega | assumption | rfl | (simp only [vcS] <;> omega) | fail) only [↓ptV_l, ↓vcA, vcB, ↓vcD, vcE, ↓reduceIte, Nat.reduceEqDiff, Nat.reduceAdd, Nat.reduceMul, Nat.reduceLeDiff, Int.reduceLE, Int.reduceLT, Int.reduceEq, Int.reduceToNat, Int.reduceAdd, Int.reduceSub, Int.reduceMul, Int.reduceNeg, reduceCtorEq, Option.bind_some, Option.map_some, List.length_cons, List.length_nil, vcM, List.getElem?_toArray, List.getElem?_cons_zero, List.getElem?_cons_succ, ho6, hA6]
  have hrv : ∀ g c, w4.heap[g]? = some (.cells c 30 (0, 0)) → ¬ g = jp := fun g c hg e => by rw [e, ho4] at hg; cases hg
  have hbv : ∀ g c, w4.heap[g]? = some (.cells c 5 (0, 0)) → ¬ g = jp := fun g c hg e => by rw [e, ho4] at hg; cases hg
  have hst6 := (hj4.state.keep hk5d hbv).ext hE6
  obtain ⟨vs, hO, hAl⟩ := (hj4.recs.keep hk5d hbv hrv).ext hE6
  have hvl := forall2_len hAl
  refine appRow hO hv1 (by omega) (Nat.zero_le _) fun rv' w7 hO7 hk7 hb7 => ?_
  have hAl7 := RowsT.app hO hAl (ByT.own hv6) hk7
  have hnrv : ¬ blk rv jp := h.nerv
  have ho7 := hk7.at ho6 hnrv
  refine ⟨hO7.one, wr1_of ho7 (by simp), ?_⟩
  have ho8 : (w7.setCell ⟨jp, 4, none⟩ rv').heap[jp]? = some (.cells #[.pointer (some ⟨p, 0, none⟩), .int .u8 J.head, .int .i64 ((J.pos + 5 + b.length : Nat) : Int), sv, rv'] 62 (0, 0)) := by rw [heap_setCell_eq ho7]; rfl
  have hk8 : Keep (fun g => g = jp) w7 (w7.setCell ⟨jp, 4, none⟩ rv') := (Keep.refl _ w7).setCell _ fun _ => rfl
  generalize World.setCell _ _ _ = w8 at ho8 hk8 ⊢
  (refine W_at c12_ok ?_; refine ⟨_, rfl, ?_⟩; simp (disch := first | omega | assumption | rfl | (simp only [vcS] <;> omega) | fail) only [↓ptV_l, ↓vcA, vcB, ↓vcD, vcE, ↓reduceIte, Nat.reduceEqDiff, Nat.reduceAdd, Nat.reduceMul, Nat.reduceLeDiff, Int.reduceLE, Int.reduceLT, Int.reduceEq, Int.reduceToNat, Int.reduceAdd, Int.reduceSub, Int.reduceMul, Int.reduceNeg, reduceCtorEq, Option.bind_some, Option.map_some, List.length_cons, List.length_nil, vcM, List.getElem?_toArray, List.getElem?_cons_zero, List.getElem?_cons_succ])
  (refine W_at c12_ok ?_; refine ⟨_, rfl, ?_⟩; simp (disch := first | omega | assumption | rfl | (simp only [vcS] <;> omega) | fail) only [↓ptV_l, ↓vcA, vcB, ↓vcD, vcE, ↓reduceIte, Nat.reduceEqDiff, Nat.reduceAdd, Nat.reduceMul, Nat.reduceLeDiff, Int.reduceLE, Int.reduceLT, Int.reduceEq, Int.reduceToNat, Int.reduceAdd, Int.reduceSub, Int.reduceMul, Int.reduceNeg, reduceCtorEq, Option.bind_some, Option.map_some, List.length_cons, List.length_nil, vcM, List.getElem?_toArray, List.getElem?_cons_zero, List.getElem?_cons_succ, Ret_returned])
  refine ⟨0, rfl, .inr (.inr ⟨by omega, by omega, d2, hA, ?_⟩)⟩
  rw [if_pos rfl]
  have hKa : Keep (fun g => g = jp) w4 w6 := hk5d.ext hE6
  have hKb : Keep (fun g => g = jp ∨ blk rv g) w4 w7 := (hKa.mono fun _ h => .inl h).trans hk7 fun _ _ h => .inr h
  have hKc : Keep (fun g => g = jp ∨ blk rv g) w4 w8 := hKb.trans hk8 fun _ _ h => .inl h
  have nrv6 : ∀ g c, w6.heap[g]? = some (.cells c 5 (0, 0)) → ¬ blk rv g := fun g c hg hb => by
    obtain ⟨c', hc⟩ := (hO.blk hb).2
    rw [hg] at hc
    cases hc
  have hst7 := hst6.keep hk7 nrv6
  have nj7 : ∀ g c t, w7.heap[g]? = some (.cells c t (0, 0)) → t ≠ 62 → ¬ g = jp := fun g c t hg ht e => by rw [e, ho7] at hg; cases hg; exact ht rfl
  refine ⟨⟨sv, rv', qv2, ⟨ho8, hst7.keep hk8 fun g c hg => nj7 g c _ hg (by decide), ⟨vs ++ [.slice q b.length c], hO7.keep hk8 fun g hg => ?_, forall2_keep hAl7 fun v bs hb => hb.keep hk8 fun g c hg => nj7 g c _ hg (by decide)⟩⟩, hD4.keep hKc fun g hg hS => ?_, hb4, fun g hg => ?_⟩, ?_, fun B hB hnew => ?_⟩
  · obtain ⟨c', hc⟩ := (hO7.blk hg).2
    exact nj7 g c' _ hc (by decide)
  · rcases hD4.kind hg with ⟨es, c', e⟩ | ⟨c', t, e, ht⟩
    · rcases hS with rfl | hS
      · rw [ho4] at e; cases e
      · obtain ⟨c2, e2⟩ := hj4.recs.blk hS
        rw [e2] at e; cases e
    · rcases hS with rfl | hS
      · rw [ho4] at e; cases e; rcases ht with ht | ht <;> exact absurd ht (by decide)
      · obtain ⟨c2, e2⟩ := hj4.recs.blk hS
        rw [e2] at e; cases e; rcases ht with ht | ht <;> exact absurd ht (by decide)
  · rcases hb7 g hg with h1 | h1
    · exact .inl h1
    · exact .inr (Nat.le_trans (Nat.le_trans hk4.size hKa.size) h1)
  · exact (hk4.mono fun g hg => .inr (.inl hg)).trans hKc fun g _ hg => hg.elim .inl fun hg => .inr (.inr hg)
  · have hB6 := fun vs0 => (hB.keep hk4 (hD.nob h.obj (by decide) (by decide)) fun g c hg => hD.nob hg (by decide) (by decide)).is (vs := vs0) hj4
    have hsz : w.heap.size ≤ w5.drew.heap.size := Nat.le_trans hk4.size hk5d.size
    refine ⟨_, _, _, sv, rv', ho8, ?_, vs ++ [.slice q b.length c], hO7.keep hk8 fun g hg => ?_, ?_⟩
    · obtain ⟨vs0, hO0, _⟩ := hj4.recs
      exact (hB6 vs0 hO0).1
    · obtain ⟨c', hc⟩ := (hO7.blk hg).2
      exact nj7 g c' _ hc (by decide)
    · intro v hv g hg
      rcases List.mem_append.1 hv with hv | hv
      · obtain ⟨vs0, hO0, _⟩ := hj4.recs
        have e := (hO0.keep hk5d fun g hg => (hO0.blk hg).2.elim fun c hc => hrv g c hc).ext hE6
        have e2 := e.rd
        rw [hO.rd] at e2
        rw [vs_inj (Option.some.inj e2)] at hv
        exact (hB6 vs0 hO0).2 v hv g hg
      · rw [List.mem_singleton.1 hv] at hg
        exact hnew g (Nat.le_trans hsz (hn6 g hg))
end Go.Proofs
