/- A journal on a quiet disk: steps; the fixed fact. -/
import Derived.Test.YtfackfekmadjbaaJD
set_option linter.unusedSimpArgs false
set_option linter.unusedVariables false
set_option linter.constructorNameAsVariable false
namespace Go.Proofs
open Go.Vc
set_option maxRecDepth 10000

def J0 : JS := ⟨0, 0, [], []⟩
theorem new_good {n : Int} (h : 16 ≤ n) : Good (newD n) J0 := by
  have hn : (newD n).n = (max 0 (min n 65536)).toNat := rfl
  have hz : ∀ i c, c < 64 → byteD (newD n).safe i c = some 0 := fun i c hc => by
    show (List.replicate 64 (0 : Int))[c]? = some 0
    rw [List.getElem?_replicate, if_pos hc]
  refine ⟨⟨⟨by omega, fun _ => zsec_ok, fun x hx => (by cases hx), Nat.zero_le _, by simp [newD]⟩, by omega, by simp [J0], fun _ => rfl, rfl, ?_, fun b hb => (by cases hb), fun b hb => (by cases hb), hz 0 0 (by omega), ?_⟩, rfl, rfl⟩
  · show 0 + 1 ≤ 64 * (((newD n).n - 1) / 2)
    omega
  · intro o ho
    have : o = 0 := by simpa [J0, allR, layF] using ho
    subst this
    exact hz _ 0 (by omega)
structure JSys (base : Nat) (w : World) (jp p r : Nat) (sv rv qv : Value) (J : JS) (d : DS) : Prop where
  j : JAt w jp p sv rv J
  d : DAt w p r qv d
  base : ∀ g, JB jp p r rv qv g → base ≤ g
theorem JSys.ext {base : Nat} {w w' : World} {jp p r : Nat} {sv rv qv : Value} {J : JS} {d : DS} (h : JSys base w jp p r sv rv qv J d) (k : Ext w w') : JSys base w' jp p r sv rv qv J d := ⟨h.j.ext k, h.d.ext k, h.base⟩
theorem JSys.keep {B S : Nat → Prop} {base : Nat} {w w' : World} {jp p r : Nat} {sv rv qv : Value} {J : JS} {d : DS} (h : JSys base w jp p r sv rv qv J d) (hi : JIn B w jp) (k : Keep S w w') (h1 : ∀ g, JB jp p r rv qv g → ¬ S g) (hS : ∀ g, B g → ¬ S g) : JSys base w' jp p r sv rv qv J d :=
  ⟨h.j.keepB hi k (h1 jp (.inl rfl)) (fun g hg => h1 g (.inr (.inr hg))) hS, h.d.keep k fun g hg => h1 g (.inr (.inl hg)), h.base⟩
structure StepTo (base : Nat) (w w' : World) (jp p r : Nat) (rv qv : Value) (J' : JS) (d' : DS) (sv' rv' qv' : Value) : Prop where
  sys : JSys base w' jp p r sv' rv' qv' J' d'
  keep : Keep (JB jp p r rv qv) w w'
  rvb : ∀ g, blk rv' g → blk rv g ∨ w.heap.size ≤ g
  qvb : ∀ g, blk qv' g → blk qv g ∨ w.heap.size ≤ g
  ins : ∀ B : Nat → Prop, JIn B w jp → (∀ g, w.heap.size ≤ g → B g) → JIn B w' jp
theorem JTo.step {base : Nat} {w w' : World} {jp p r : Nat} {sv rv qv : Value} {J J' : JS} {d d' : DS} (h : JSys base w jp p r sv rv qv J d) (hb : base ≤ w.heap.size) (k : JTo w w' jp p r rv qv J' d') : ∃ sv' rv' qv', StepTo base w w' jp p r rv qv J' d' sv' rv' qv' := by
  obtain ⟨⟨sv', rv', qv', h1, h2, h3, h4⟩, k2, k3⟩ := k
  refine ⟨sv', rv', qv', ⟨h1, h2, fun g hg => ?_⟩, k2, h4, h3, k3⟩
  rcases hg with rfl | (rfl | rfl | hg) | hg
  · exact h.base _ (.inl rfl)
  · exact h.base _ (.inr (.inl (.inl rfl)))
  · exact h.base _ (.inr (.inl (.inr (.inl rfl))))
  · rcases h3 g hg with h5 | h5
    · exact h.base _ (.inr (.inl (.inr (.inr h5))))
    · omega
  · rcases h4 g hg with h5 | h5
    · exact h.base _ (.inr (.inr h5))
    · omega
theorem appR_quiet {w w' : World} {jp p r : Nat} {rv qv : Value} {J : JS} {d : DS} {b : List Int} {u : Value} (hl : d.left = -1) (hb : b.length ≤ 65535) (hr : ((b.length : Nat) : Int) ≤ roomF d J) (h : AppR w w' jp p r rv qv J d b u) :
    u = .int .i64 0 ∧ ∃ d', Good d' (J.app b) ∧ d'.left = -1 ∧ d'.n = d.n ∧ JTo w w' jp p r rv qv (J.app b) d' := by
  obtain ⟨e, rfl, ⟨h1, _⟩ | ⟨_, h1, _⟩ | ⟨_, _, d', h1, h2⟩⟩ := h
  · omega
  · omega
  · obtain ⟨rfl, h3⟩ := h1.quiet hl
    rcases h1.res with ⟨_, h4⟩ | ⟨h4, _⟩
    · rw [if_pos rfl] at h2
      exact ⟨rfl, d', h4, h3, h1.n, h2⟩
    · cases h4
theorem cmpR_quiet {w w' : World} {jp p r : Nat} {rv qv : Value} {J : JS} {d : DS} {b : List Int} {u : Value} (hl : d.left = -1) (hb : b.length ≤ 1048576) (hr : b.length + 6 ≤ 64 * secs d.n) (h : CmpR w w' jp p r rv qv J d b u) :
    u = .int .i64 0 ∧ ∃ d', Good d' (J.cmp b) ∧ d'.left = -1 ∧ d'.n = d.n ∧ JTo w w' jp p r rv qv (J.cmp b) d' := by
  obtain ⟨e, rfl, ⟨h1, _⟩ | ⟨_, h1, _⟩ | ⟨_, _, d', h1, h2⟩⟩ := h
  · omega
  · omega
  · obtain ⟨rfl, h3⟩ := h1.quiet hl
    rcases h1.res with ⟨_, h4⟩ | ⟨h4, _⟩
    · rw [if_pos rfl] at h2
      exact ⟨rfl, d', h4, h3, h1.n, h2⟩
    · cases h4
theorem OpenR.sys {base : Nat} {w w' : World} {p r : Nat} {qv u : Value} {J : JS} {d : DS} (hD : DAt w p r qv d) (hb : base ≤ w.heap.size) (hB : ∀ g, DB p r qv g → base ≤ g) (h : OpenR w w' p J u) :
    ∃ jp sv rv, u = .tuple #[.pointer (some ⟨jp, 0, none⟩), .int .i64 0] ∧ JSys base w' jp p r sv rv qv J d ∧ Ext w w' ∧ (∀ g, blk rv g → w.heap.size ≤ g) ∧ JIn (fun g => w.heap.size ≤ g) w' jp := by
  obtain ⟨jp, sv, rv, rfl, h1, h2, h3, h4, h5⟩ := h
  refine ⟨jp, sv, rv, rfl, ⟨h1, hD.ext h2, fun g hg => ?_⟩, h2, h4, h5⟩
  rcases hg with rfl | hg | hg
  · omega
  · exact hB g hg
  · have := h4 g hg; omega
theorem mks_x {w : World} {bs : List Int} (hn : bs.length ≤ maxLen) : ByX (w.alloc (.cells (bv bs).toArray 5 ((bv bs).toArray.size, (bv bs).toArray.size + 1))) (.slice (some ⟨w.heap.size, 0, none⟩) bs.length bs.length) bs := by
  refine ⟨⟨⟨_, _, rfl, Nat.le_refl _⟩, hn, ?_⟩, fun g hg => ?_⟩
  · simp only [rdS]
    split
    · rename_i h0
      have : bs = [] := List.eq_nil_of_length_eq_zero h0
      subst this; rfl
    · rw [rdN_heap, heap_new _ _ _ rfl, rdO_some _ _ _ _ _ (by simp [bv_len]), Nat.zero_add, ext_all _ _ (by simp [bv_len])]
  · have e : w.heap.size = g := Option.some.inj hg
    subst e
    exact ⟨_, _, heap_new _ _ _ rfl⟩
theorem ptL1_mks (P : Program) (R : Ending → World → Prop) (d : Option Nat) (g : Option (Nat × Bool)) (chk : List Chk) (k : PT) (e : Env) (w : World) (K : Env → World → Prop) (el : Nat) (x : Operand) : ptV P R (.l d g (.mks el x) chk k) e w K = gdV g e (fun e => liV P R e w (fun v w' => okCs chk (put d v e) w' ∧ ptS1 P R k (put d v e) w' K) (.mks el x)) fun e => ptV P R k (put d undef e) w K := id rfl
theorem ptL2_mks (P : Program) (R : Ending → World → Prop) (d : Option Nat) (g : Option (Nat × Bool)) (chk : List Chk) (k : PT) (e : Env) (w : World) (K : Env → World → Prop) (el : Nat) (x : Operand) : ptV P R (.l d g (.mks el x) chk k) e w K = gdV g e (fun e => liV P R e w (fun v w' => okCs chk (put d v e) w' ∧ ptS2 P R k (put d v e) w' K) (.mks el x)) fun e => ptV P R k (put d undef e) w K := id rfl
set_option maxHeartbeats 1600000 in
theorem awake_ok (w : World) : Calls Try.prog 7 #[] w (Ret fun u w' => u = .bool true ∧ Ext w w') := by
  refine calls_of_cfg c7_ok (Nat.le_of_ble_eq_true rfl) ?_
  simp only [argE_nil, argE_cons, Nat.reduceAdd, Nat.zero_add]
  (refine W_at c7_ok ?_; refine ⟨_, rfl, ?_⟩; simp (disch := first | omega | assumption | rfl | (simp only [vcS] <;> omega) | fail) only [↓ptV_l, ↓vcA, vcB, ↓vcD, vcE, ↓reduceIte, Nat.reduceEqDiff, Nat.reduceAdd, Nat.reduceMul, Nat.reduceLeDiff, Int.reduceLE, Int.reduceLT, Int.reduceEq, Int.reduceToNat, Int.reduceAdd, Int.reduceSub, Int.reduceMul, Int.reduceNeg, reduceCtorEq, Option.bind_some, Option.map_some, List.length_cons, List.length_nil, vcM, List.getElem?_toArray, List.getElem?_cons_zero, List.getElem?_cons_succ])
  (refine W_at c7_ok ?_; refine ⟨_, rfl, ?_⟩; simp (disch := first | omega | assumption | rfl | (simp only [vcS] <;> omega) | fail) only [↓ptV_l, ↓vcA, vcB, ↓vcD, vcE, ↓reduceIte, Nat.reduceEqDiff, Nat.reduceAdd, Nat.reduceMul, Nat.reduceLeDiff, Int.reduceLE, Int.reduceLT, Int.reduceEq, Int.reduceToNat, Int.reduceAdd, Int.reduceSub, Int.reduceMul, Int.reduceNeg, reduceCtorEq, Option.bind_some, Option.map_some, List.length_cons, List.length_nil, vcM, List.getElem?_toArray, List.getElem?_cons_zero, List.getElem?_cons_succ])
  refine callV_ret (new_ok w 40) ?_
  rintro _ w1 ⟨p, r, rfl, hD1, hE1, hp1, hr1⟩
  have hG0 : Good (newD 40) J0 := new_good (by omega)
  have hn0 : (newD 40).n = 40 := rfl
  have hl0 : (newD 40).left = -1 := rfl
  generalize newD 40 = d0 at hD1 hG0 hn0 hl0
  first | (simp (disch := first | omega | assumption | rfl | (simp only [vcS] <;> omega) | fail) only [↓ptV_l, ↓vcA, vcB, ↓vcD, vcE, ↓reduceIte, Nat.reduceEqDiff, Nat.reduceAdd, Nat.reduceMul, Nat.reduceLeDiff, Int.reduceLE, Int.reduceLT, Int.reduceEq, Int.reduceToNat, Int.reduceAdd, Int.reduceSub, Int.reduceMul, Int.reduceNeg, reduceCtorEq, Option.bind_some, Option.map_some, List.length_cons, List.length_nil, vcM, List.getElem?_toArray, List.getElem?_cons_zero, List.getElem?_cons_succ]) | skip
  (refine W_at c7_ok ?_; refine ⟨_, rfl, ?_⟩; simp (disch := first | omega | assumption | rfl | (simp only [vcS] <;> omega) | fail) only [↓ptV_l, ↓vcA, vcB, ↓vcD, vcE, ↓reduceIte, Nat.reduceEqDiff, Nat.reduceAdd, Nat.reduceMul, Nat.reduceLeDiff, Int.reduceLE, Int.reduceLT, Int.reduceEq, Int.reduceToNat, Int.reduceAdd, Int.reduceSub, Int.reduceMul, Int.reduceNeg, reduceCtorEq, Option.bind_some, Option.map_some, List.length_cons, List.length_nil, vcM, List.getElem?_toArray, List.getElem?_cons_zero, List.getElem?_cons_succ])
  refine callV_ret (open_ok' w1 p r _ d0 J0 hD1 hG0.inv hG0.queue hG0.alive) ?_
  intro u w2 hO
  obtain ⟨jp, sv, rv, rfl, hS2, hE2, _, _⟩ := OpenR.sys (base := w.heap.size) hD1 hE1.size (fun g hg => by rcases hg with rfl | rfl | hg; exact hp1; exact hr1; cases hg) hO
  have hb2 := (hE1.ext hE2).size
  first | (simp (disch := first | omega | assumption | rfl | (simp only [vcS] <;> omega) | fail) only [↓ptV_l, ↓vcA, vcB, ↓vcD, vcE, ↓reduceIte, Nat.reduceEqDiff, Nat.reduceAdd, Nat.reduceMul, Nat.reduceLeDiff, Int.reduceLE, Int.reduceLT, Int.reduceEq, Int.reduceToNat, Int.reduceAdd, Int.reduceSub, Int.reduceMul, Int.reduceNeg, reduceCtorEq, Option.bind_some, Option.map_some, List.length_cons, List.length_nil, vcM, List.getElem?_toArray, List.getElem?_cons_zero, List.getElem?_cons_succ]) | skip
  (refine W_at c7_ok ?_; refine ⟨_, rfl, ?_⟩; simp (disch := first | omega | assumption | rfl | (simp only [vcS] <;> omega) | fail) only [↓vcL1, ptS2_eq, ↓vcA, vcB, ↓vcD, vcE, ↓reduceIte, Nat.reduceEqDiff, Nat.reduceAdd, Nat.reduceMul, Nat.reduceLeDiff, Int.reduceLE, Int.reduceLT, Int.reduceEq, Int.reduceToNat, Int.reduceAdd, Int.reduceSub, Int.reduceMul, Int.reduceNeg, reduceCtorEq, Option.bind_some, Option.map_some, List.length_cons, List.length_nil, vcM, List.getElem?_toArray, List.getElem?_cons_zero, List.getElem?_cons_succ, ↓ptL1_mks])
  have hS0 := hS2
  have hb0 := hb2
  have hEE0 := hE1.ext hE2
  refine ⟨_, _, _, _, rfl, rfl, ?_⟩
  simp (disch := first | omega | assumption | rfl | (simp only [vcS] <;> omega) | fail) only [↓vcL2, ptS1_eq, ↓vcA, vcB, ↓vcD, vcE, ↓reduceIte, Nat.reduceEqDiff, Nat.reduceAdd, Nat.reduceMul, Nat.reduceLeDiff, Int.reduceLE, Int.reduceLT, Int.reduceEq, Int.reduceToNat, Int.reduceAdd, Int.reduceSub, Int.reduceMul, Int.reduceNeg, reduceCtorEq, Option.bind_some, Option.map_some, List.length_cons, List.length_nil, vcM, List.getElem?_toArray, List.getElem?_cons_zero, List.getElem?_cons_succ, ↓ptL2_mks]
  have hx0 : ByX (w2.alloc (.cells (bv [97]).toArray 5 ((bv [97]).toArray.size, (bv [97]).toArray.size + 1))) (.slice (some ⟨w2.heap.size, 0, none⟩) 1 1) [97] := mks_x (w := w2) (bs := [97]) (by decide)
  have hE0 : Ext w2 (w2.alloc (.cells (bv [97]).toArray 5 ((bv [97]).toArray.size, (bv [97]).toArray.size + 1))) := (Keep.refl _ w2).alloc _
  change callV _ _ _ _ (w2.alloc (.cells (bv [97]).toArray 5 ((bv [97]).toArray.size, (bv [97]).toArray.size + 1))) _
  generalize World.alloc w2 _ = w3 at hx0 hE0 ⊢
  have hSa0 := hS0.ext hE0
  refine callV_ret (Append_ok w3 jp p r sv rv _ J0 d0 _ [97] hSa0.j hSa0.d hG0 hx0 (by intro y hy; rw [List.mem_singleton.1 hy]; omega) (by decide)) ?_
  intro u w4 hA
  obtain ⟨rfl, d1, hG1, hl1, hn1, hT⟩ := appR_quiet hl0 (by decide) (by unfold roomF; rw [hn0]; decide) hA
  obtain ⟨sv1, rv1, qv1, hT1⟩ := JTo.step hSa0 (Nat.le_trans hb0 hE0.size) hT
  have hS1 := hT1.sys
  have hEE1 : Ext w w4 := (hEE0.ext hE0).trans hT1.keep fun i hi hg => by have := hSa0.base i hg; omega
  have hb1 := hEE1.size
  rw [hn0] at hn1
  simp (disch := first | omega | assumption | rfl | (simp only [vcS] <;> omega) | fail) only [↓vcL1, ptS2_eq, ↓vcA, vcB, ↓vcD, vcE, ↓reduceIte, Nat.reduceEqDiff, Nat.reduceAdd, Nat.reduceMul, Nat.reduceLeDiff, Int.reduceLE, Int.reduceLT, Int.reduceEq, Int.reduceToNat, Int.reduceAdd, Int.reduceSub, Int.reduceMul, Int.reduceNeg, reduceCtorEq, Option.bind_some, Option.map_some, List.length_cons, List.length_nil, vcM, List.getElem?_toArray, List.getElem?_cons_zero, List.getElem?_cons_succ, eq_self, ↓ptL1_mks]
  refine ⟨_, _, _, _, rfl, rfl, ?_⟩
  simp (disch := first | omega | assumption | rfl | (simp only [vcS] <;> omega) | fail) only [↓vcL2, ptS1_eq, ↓vcA, vcB, ↓vcD, vcE, ↓reduceIte, Nat.reduceEqDiff, Nat.reduceAdd, Nat.reduceMul, Nat.reduceLeDiff, Int.reduceLE, Int.reduceLT, Int.reduceEq, Int.reduceToNat, Int.reduceAdd, Int.reduceSub, Int.reduceMul, Int.reduceNeg, reduceCtorEq, Option.bind_some, Option.map_some, List.length_cons, List.length_nil, vcM, List.getElem?_toArray, List.getElem?_cons_zero, List.getElem?_cons_succ, ↓ptL2_mks]
  have hx1 : ByX (w4.alloc (.cells (bv [115]).toArray 5 ((bv [115]).toArray.size, (bv [115]).toArray.size + 1))) (.slice (some ⟨w4.heap.size, 0, none⟩) 1 1) [115] := mks_x (w := w4) (bs := [115]) (by decide)
  have hE1 : Ext w4 (w4.alloc (.cells (bv [115]).toArray 5 ((bv [115]).toArray.size, (bv [115]).toArray.size + 1))) := (Keep.refl _ w4).alloc _
  change callV _ _ _ _ (w4.alloc (.cells (bv [115]).toArray 5 ((bv [115]).toArray.size, (bv [115]).toArray.size + 1))) _
  generalize World.alloc w4 _ = w5 at hx1 hE1 ⊢
  have hSa1 := hS1.ext hE1
  refine callV_ret (Compact_ok w5 jp p r sv1 rv1 qv1 (J0.app [97]) d1 _ [115] hSa1.j hSa1.d hG1 hx1 (by intro y hy; rw [List.mem_singleton.1 hy]; omega) (by decide)) ?_
  intro u w6 hA
  obtain ⟨rfl, d2, hG2, hl2, hn2, hT⟩ := cmpR_quiet hl1 (by decide) (by rw [hn1]; decide) hA
  obtain ⟨sv2, rv2, qv2, hT2⟩ := JTo.step hSa1 (Nat.le_trans hb1 hE1.size) hT
  have hS2 := hT2.sys
  have hEE2 : Ext w w6 := (hEE1.ext hE1).trans hT2.keep fun i hi hg => by have := hSa1.base i hg; omega
  have hb2 := hEE2.size
  rw [hn1] at hn2
  simp (disch := first | omega | assumption | rfl | (simp only [vcS] <;> omega) | fail) only [↓vcL1, ptS2_eq, ↓vcA, vcB, ↓vcD, vcE, ↓reduceIte, Nat.reduceEqDiff, Nat.reduceAdd, Nat.reduceMul, Nat.reduceLeDiff, Int.reduceLE, Int.reduceLT, Int.reduceEq, Int.reduceToNat, Int.reduceAdd, Int.reduceSub, Int.reduceMul, Int.reduceNeg, reduceCtorEq, Option.bind_some, Option.map_some, List.length_cons, List.length_nil, vcM, List.getElem?_toArray, List.getElem?_cons_zero, List.getElem?_cons_succ, eq_self, ↓ptL1_mks]
  refine ⟨_, _, _, _, rfl, rfl, ?_⟩
  simp (disch := first | omega | assumption | rfl | (simp only [vcS] <;> omega) | fail) only [↓vcL2, ptS1_eq, ↓vcA, vcB, ↓vcD, vcE, ↓reduceIte, Nat.reduceEqDiff, Nat.reduceAdd, Nat.reduceMul, Nat.reduceLeDiff, Int.reduceLE, Int.reduceLT, Int.reduceEq, Int.reduceToNat, Int.reduceAdd, Int.reduceSub, Int.reduceMul, Int.reduceNeg, reduceCtorEq, Option.bind_some, Option.map_some, List.length_cons, List.length_nil, vcM, List.getElem?_toArray, List.getElem?_cons_zero, List.getElem?_cons_succ, ↓ptL2_mks]
  have hx2 : ByX (w6.alloc (.cells (bv [99]).toArray 5 ((bv [99]).toArray.size, (bv [99]).toArray.size + 1))) (.slice (some ⟨w6.heap.size, 0, none⟩) 1 1) [99] := mks_x (w := w6) (bs := [99]) (by decide)
  have hE2 : Ext w6 (w6.alloc (.cells (bv [99]).toArray 5 ((bv [99]).toArray.size, (bv [99]).toArray.size + 1))) := (Keep.refl _ w6).alloc _
  change callV _ _ _ _ (w6.alloc (.cells (bv [99]).toArray 5 ((bv [99]).toArray.size, (bv [99]).toArray.size + 1))) _
  generalize World.alloc w6 _ = w7 at hx2 hE2 ⊢
  have hSa2 := hS2.ext hE2
  refine callV_ret (Append_ok w7 jp p r sv2 rv2 qv2 ((J0.app [97]).cmp [115]) d2 _ [99] hSa2.j hSa2.d hG2 hx2 (by intro y hy; rw [List.mem_singleton.1 hy]; omega) (by decide)) ?_
  intro u w8 hA
  obtain ⟨rfl, d3, hG3, hl3, hn3, hT⟩ := appR_quiet hl2 (by decide) (by unfold roomF; rw [hn2]; decide) hA
  obtain ⟨sv3, rv3, qv3, hT3⟩ := JTo.step hSa2 (Nat.le_trans hb2 hE2.size) hT
  have hS3 := hT3.sys
  have hEE3 : Ext w w8 := (hEE2.ext hE2).trans hT3.keep fun i hi hg => by have := hSa2.base i hg; omega
  have hb3 := hEE3.size
  rw [hn2] at hn3
  simp (disch := first | omega | assumption | rfl | (simp only [vcS] <;> omega) | fail) only [↓vcL1, ptS2_eq, ↓vcA, vcB, ↓vcD, vcE, ↓reduceIte, Nat.reduceEqDiff, Nat.reduceAdd, Nat.reduceMul, Nat.reduceLeDiff, Int.reduceLE, Int.reduceLT, Int.reduceEq, Int.reduceToNat, Int.reduceAdd, Int.reduceSub, Int.reduceMul, Int.reduceNeg, reduceCtorEq, Option.bind_some, Option.map_some, List.length_cons, List.length_nil, vcM, List.getElem?_toArray, List.getElem?_cons_zero, List.getElem?_cons_succ, eq_self, ↓ptL1_mks]
  (refine W_at c7_ok ?_; refine ⟨_, rfl, ?_⟩; simp (disch := first | omega | assumption | rfl | (simp only [vcS] <;> omega) | fail) only [↓ptV_l, ↓vcA, vcB, ↓vcD, vcE, ↓reduceIte, Nat.reduceEqDiff, Nat.reduceAdd, Nat.reduceMul, Nat.reduceLeDiff, Int.reduceLE, Int.reduceLT, Int.reduceEq, Int.reduceToNat, Int.reduceAdd, Int.reduceSub, Int.reduceMul, Int.reduceNeg, reduceCtorEq, Option.bind_some, Option.map_some, List.length_cons, List.length_nil, vcM, List.getElem?_toArray, List.getElem?_cons_zero, List.getElem?_cons_succ])
  (refine W_at c7_ok ?_; refine ⟨_, rfl, ?_⟩; simp (disch := first | omega | assumption | rfl | (simp only [vcS] <;> omega) | fail) only [↓ptV_l, ↓vcA, vcB, ↓vcD, vcE, ↓reduceIte, Nat.reduceEqDiff, Nat.reduceAdd, Nat.reduceMul, Nat.reduceLeDiff, Int.reduceLE, Int.reduceLT, Int.reduceEq, Int.reduceToNat, Int.reduceAdd, Int.reduceSub, Int.reduceMul, Int.reduceNeg, reduceCtorEq, Option.bind_some, Option.map_some, List.length_cons, List.length_nil, vcM, List.getElem?_toArray, List.getElem?_cons_zero, List.getElem?_cons_succ])
  have hJ3 : ((J0.app [97]).cmp [115]).app [99] = ⟨1, 12, [115], [[99]]⟩ := rfl
  rw [hJ3] at hS3 hG3
  refine callV_ret (open_ok' w8 p r _ d3 _ hS3.d hG3.inv hG3.queue hG3.alive) ?_
  intro u w9 hO
  obtain ⟨jp9, sv9, rv9, rfl, hS9, hE9, _, _⟩ := OpenR.sys (base := w.heap.size) hS3.d hb3 (fun g hg => hS3.base g (.inr (.inl hg))) hO
  first | (simp (disch := first | omega | assumption | rfl | (simp only [vcS] <;> omega) | fail) only [↓ptV_l, ↓vcA, vcB, ↓vcD, vcE, ↓reduceIte, Nat.reduceEqDiff, Nat.reduceAdd, Nat.reduceMul, Nat.reduceLeDiff, Int.reduceLE, Int.reduceLT, Int.reduceEq, Int.reduceToNat, Int.reduceAdd, Int.reduceSub, Int.reduceMul, Int.reduceNeg, reduceCtorEq, Option.bind_some, Option.map_some, List.length_cons, List.length_nil, vcM, List.getElem?_toArray, List.getElem?_cons_zero, List.getElem?_cons_succ]) | skip
  (refine W_at c7_ok ?_; refine ⟨_, rfl, ?_⟩; simp (disch := first | omega | assumption | rfl | (simp only [vcS] <;> omega) | fail) only [↓vcL1, ptS2_eq, ↓vcA, vcB, ↓vcD, vcE, ↓reduceIte, Nat.reduceEqDiff, Nat.reduceAdd, Nat.reduceMul, Nat.reduceLeDiff, Int.reduceLE, Int.reduceLT, Int.reduceEq, Int.reduceToNat, Int.reduceAdd, Int.reduceSub, Int.reduceMul, Int.reduceNeg, reduceCtorEq, Option.bind_some, Option.map_some, List.length_cons, List.length_nil, vcM, List.getElem?_toArray, List.getElem?_cons_zero, List.getElem?_cons_succ])
  refine callV_ret (State_ok w9 jp9 p sv9 rv9 _ hS9.j (by decide)) ?_
  intro s wa hNs
  have hb2s : b2sR wa s = some (.string ⟨#[115]⟩) := hNs.own.rd.b2s
  have hja := hS9.j.ext hNs.ext
  simp (disch := first | omega | assumption | rfl | (simp only [vcS] <;> omega) | fail) only [↓vcL2, ptS1_eq, ↓vcA, vcB, ↓vcD, vcE, ↓reduceIte, Nat.reduceEqDiff, Nat.reduceAdd, Nat.reduceMul, Nat.reduceLeDiff, Int.reduceLE, Int.reduceLT, Int.reduceEq, Int.reduceToNat, Int.reduceAdd, Int.reduceSub, Int.reduceMul, Int.reduceNeg, reduceCtorEq, Option.bind_some, Option.map_some, List.length_cons, List.length_nil, vcM, List.getElem?_toArray, List.getElem?_cons_zero, List.getElem?_cons_succ, hb2s]
  refine callV_ret (Records_ok wa jp9 p sv9 rv9 _ hja (by decide) (by decide)) ?_
  rintro r1 wb ⟨hR1, hEb⟩
  have hlr := hR1.rows.len
  have hjb := hja.ext hEb
  simp (disch := first | omega | assumption | rfl | (simp only [vcS] <;> omega) | fail) only [↓vcL1, ptS2_eq, ↓vcA, vcB, ↓vcD, vcE, ↓reduceIte, Nat.reduceEqDiff, Nat.reduceAdd, Nat.reduceMul, Nat.reduceLeDiff, Int.reduceLE, Int.reduceLT, Int.reduceEq, Int.reduceToNat, Int.reduceAdd, Int.reduceSub, Int.reduceMul, Int.reduceNeg, reduceCtorEq, Option.bind_some, Option.map_some, List.length_cons, List.length_nil, vcM, List.getElem?_toArray, List.getElem?_cons_zero, List.getElem?_cons_succ, hlr, eq_self]
  refine callV_ret (Records_ok wb jp9 p sv9 rv9 _ hjb (by decide) (by decide)) ?_
  rintro r2 wc ⟨hR2, hEc⟩
  obtain ⟨gx, ox, cx, vx, ex, hcx, hvx⟩ := hR2.rows.at (i := 0) (by decide)
  subst ex
  have hb2 : b2sR wc vx = some (.string ⟨#[99]⟩) := hvx.1.b2s
  rw [Nat.add_zero] at hcx
  simp (disch := first | omega | assumption | rfl | (simp only [vcS] <;> omega) | fail) only [↓vcL2, ptS1_eq, ↓vcA, vcB, ↓vcD, vcE, ↓reduceIte, Nat.reduceEqDiff, Nat.reduceAdd, Nat.reduceMul, Nat.reduceLeDiff, Int.reduceLE, Int.reduceLT, Int.reduceEq, Int.reduceToNat, Int.reduceAdd, Int.reduceSub, Int.reduceMul, Int.reduceNeg, reduceCtorEq, Option.bind_some, Option.map_some, List.length_cons, List.length_nil, vcM, List.getElem?_toArray, List.getElem?_cons_zero, List.getElem?_cons_succ, hcx, hb2]
  (refine W_at c7_ok ?_; refine ⟨_, rfl, ?_⟩; simp (disch := first | omega | assumption | rfl | (simp only [vcS] <;> omega) | fail) only [↓ptV_l, ↓vcA, vcB, ↓vcD, vcE, ↓reduceIte, Nat.reduceEqDiff, Nat.reduceAdd, Nat.reduceMul, Nat.reduceLeDiff, Int.reduceLE, Int.reduceLT, Int.reduceEq, Int.reduceToNat, Int.reduceAdd, Int.reduceSub, Int.reduceMul, Int.reduceNeg, reduceCtorEq, Option.bind_some, Option.map_some, List.length_cons, List.length_nil, vcM, List.getElem?_toArray, List.getElem?_cons_zero, List.getElem?_cons_succ, Ret_returned])
  exact ((((hEE3.ext hE9).ext hNs.ext).ext hEb).ext hEc)
end Go.Proofs
