/- 'strongboxlaw12.SighashFree' returns true for every input, and the input reads as it did. No condition. -/
import Derived.Test.YtmbjokhekfiihaaQB4
import Derived.Test.YtmbjokhekfiihaaRows
set_option linter.unusedSimpArgs false
set_option linter.unusedVariables false
set_option linter.constructorNameAsVariable false
namespace Go.Proofs
open Go.Vc
set_option maxRecDepth 10000

theorem look_mem : ∀ {e : Env} {t : Nat} {v : Value}, Vc.look e t = some v → (t, v) ∈ e
  | [], _, _, h => by simp [Vc.look] at h
  | (s, u) :: e, t, v, h => by
    simp only [Vc.look] at h
    split at h
    · rename_i hs; subst hs; cases h; exact List.mem_cons_self
    · exact List.mem_cons_of_mem _ (look_mem h)
/-- What is known of more slots is known of fewer. -/
theorem W_env {P : Program} {R : Ending → World → Prop} {f : FuncId} {l : Nat} {e e' : Env} {w : World} (h : W P R f l e w) (hs : ∀ p ∈ e, Vc.look e' p.1 = some p.2) : W P R f l e' w :=
  fun n en E hc a ha => h n en E hc a ⟨ha.size, ha.nodef, fun t v hv => ha.val t v (hs _ (look_mem hv))⟩
theorem in_cells {w0 wz : World} {bb o i : Nat} {x : TxI} {sv wv : Value} (hx : x.prev.length = 32) (hr0 : rdO w0.heap[bb]? (o + i * 36) 36 = some (iC x sv wv)) (hz : Ext w0 wz) :
    rdO wz.heap[bb]? (o + i * 36) 33 = some (pC x.prev x.idx) ∧ cellO wz.heap[bb]? (o + i * 36 + 34) = some (.int .u32 x.seq) ∧ cellO wz.heap[bb]? (o + i * 36 + 33) = some sv ∧ cellO wz.heap[bb]? (o + i * 36 + 35) = some wv := by
  have hr := rdO_ext' hz hr0
  have s36 := iC_size hx sv wv
  refine ⟨?_, by rw [rdO_cell hr (by omega), iC_34 hx], by rw [rdO_cell hr (by omega), iC_33 hx], by rw [rdO_cell hr (by omega), iC_35 hx]⟩
  cases hg : wz.heap[bb]? with
  | none => rw [hg] at hr; cases hr
  | some ob =>
    rw [hg] at hr
    cases ob with
    | cells cur T fz =>
      simp only [rdO] at hr ⊢
      split at hr
      · rw [if_pos (by omega)]
        have e := Option.some.inj hr
        have e2 : cur.extract (o + i * 36) (o + i * 36 + 33) = (cur.extract (o + i * 36) (o + i * 36 + 36)).extract 0 33 := by
          rw [Array.extract_extract]; congr 1; omega
        rw [e2, e, iC_pC hx]
      · cases hr
    | _ => cases hr
end Go.Proofs
namespace Go.Proofs
open Go.Vc
set_option maxRecDepth 10000

def inA : TxI := ⟨List.replicate 32 0, 0, [], 0, []⟩
set_option maxHeartbeats 3200000 in
theorem awake12_ok (w : World) : Calls Try.prog 7 #[] w (Ret fun u w' => u = .bool true ∧ Ext w w') := by
  refine calls_of_cfg c7_ok (Nat.le_of_ble_eq_true rfl) ?_
  simp only [argE_nil, argE_cons, Nat.reduceAdd, Nat.zero_add]
  (refine W_at c7_ok ?_; refine ⟨_, rfl, ?_⟩; simp (disch := first | omega | assumption | rfl | (simp only [vcS] <;> omega) | fail) only [↓ptV_l, ↓vcA, vcB, ↓vcD, vcE, ↓reduceIte, Nat.reduceEqDiff, Nat.reduceAdd, Nat.reduceMul, Nat.reduceLeDiff, Int.reduceLE, Int.reduceLT, Int.reduceEq, Int.reduceToNat, Int.reduceAdd, Int.reduceSub, Int.reduceMul, Int.reduceNeg, reduceCtorEq, Option.bind_some, Option.map_some, List.length_cons, List.length_nil, vcM, List.getElem?_toArray, List.getElem?_cons_zero, List.getElem?_cons_succ])
  have hz : #[] ++ zc [(32, Value.int .u8 0), (1, .int .u32 0), (1, .slice none 0 0), (1, .int .u32 0), (1, .slice none 0 0)] = iC inA (.slice none 0 0) (.slice none 0 0) := rfl
  have hz2 : zc [(32, Value.int .u8 0), (1, .int .u32 0), (1, .slice none 0 0), (1, .int .u32 0), (1, .slice none 0 0)] = iC inA (.slice none 0 0) (.slice none 0 0) := rfl
  have hs36 : (iC inA (.slice none 0 0) (.slice none 0 0)).size = 36 := rfl
  have hz3 : ∀ g, zc [(1, Value.int .i32 0)] ++ (#[Value.slice (some ⟨g, 0, none⟩) 1 1] ++ zc [(1, Value.slice none 0 0), (1, Value.int .u32 0)]) = txC txA (.slice (some ⟨g, 0, none⟩) 1 1) (.slice none 0 0) := fun g => rfl
  have hz4 : ∀ g, (txC txA (.slice (some ⟨g, 0, none⟩) 1 1) (.slice none 0 0)).size = 4 := fun g => rfl
  (refine W_at c7_ok ?_; refine ⟨_, rfl, ?_⟩; simp (disch := first | omega | assumption | rfl | (simp only [vcS] <;> omega) | fail) only [↓ptV_l, ↓vcA, vcB, ↓vcD, vcE, ↓reduceIte, Nat.reduceEqDiff, Nat.reduceAdd, Nat.reduceMul, Nat.reduceLeDiff, Int.reduceLE, Int.reduceLT, Int.reduceEq, Int.reduceToNat, Int.reduceAdd, Int.reduceSub, Int.reduceMul, Int.reduceNeg, reduceCtorEq, Option.bind_some, Option.map_some, List.length_cons, List.length_nil, vcM, List.getElem?_toArray, List.getElem?_cons_zero, List.getElem?_cons_succ, hz2, hs36, hz3, hz4])
  have he : ((iC inA (.slice none 0 0) (.slice none 0 0)).toList ++ []).toArray = iC inA (.slice none 0 0) (.slice none 0 0) := by simp
  rw [he]
  refine ⟨by intro y hy; simp only [txC, List.mem_toArray, List.mem_cons, List.not_mem_nil, or_false] at hy; rcases hy with rfl | rfl | rfl | rfl <;> rfl, by decide, ?_⟩
  have hE1 : Ext w (w.alloc (.cells (iC inA (.slice none 0 0) (.slice none 0 0)) 50)) := (Keep.refl _ w).alloc _
  have c2 : (w.alloc (.cells (iC inA (.slice none 0 0) (.slice none 0 0)) 50)).heap[w.heap.size]? = some (.cells (iC inA (.slice none 0 0) (.slice none 0 0)) 50 (0, 0)) := heap_new _ _ _ rfl
  have s1 : (w.alloc (.cells (iC inA (.slice none 0 0) (.slice none 0 0)) 50)).heap.size = w.heap.size + 1 := size_alloc _ _
  generalize World.alloc w _ = w1 at hE1 c2 s1 ⊢
  rw [← s1]
  obtain ⟨hE2, d1⟩ := put_tx (wj := w1) (t := txA) (iv := .slice (some ⟨w.heap.size, 0, none⟩) 1 1) (ov := .slice none 0 0)
  generalize World.putN _ _ _ _ = w2 at hE2 d1 ⊢
  have c22 := hE2.at c2 (fun h => h)
  have hE := hE1.ext hE2
  generalize w1.heap.size = p1 at d1 ⊢
  generalize w.heap.size = g at c22 d1 ⊢
  have hR : TxR w2 (.slice (some ⟨g, 0, none⟩) 1 1) (.slice none 0 0) txA := by
    refine ⟨⟨[iC inA (.slice none 0 0) (.slice none 0 0)], rfl, fun c hc => by simp at hc; subst hc; exact hs36, ?_, ⟨_, _, rfl, Nat.le_refl _⟩, by decide, fun i a b => ?_⟩, ListR.nil _ _ _⟩
    · simp only [rdS, rdN_heap]
      rw [if_neg (by omega), c22, Nat.one_mul, rdO_all _ _ _ _ hs36]
      simp
    · have hi : i = 0 := by simp at a; exact a
      subst hi
      exact ⟨_, _, rfl, Rd.nil w2, RowR.nil w2⟩
  have r4 : rdO (some (.cells (txC txA (.slice (some ⟨g, 0, none⟩) 1 1) (.slice none 0 0)) 26 (0, 0))) 0 4 = some (txC txA (.slice (some ⟨g, 0, none⟩) 1 1) (.slice none 0 0)) := rdO_all _ _ _ _ rfl
  have hbo : #[Value.int .u8 1] ++ zc [(31, .int .u8 0)] = (bv oneD).toArray := rfl
  have s32 : (bv oneD).toArray.size = 32 := rfl
  have lO : oneD.length = 32 := rfl
  have q3 := eqA_self lO
  have q1 : eqAR true (skR [(32, .i .u8)]) (.agg (bv (legG txA 0 [] 1)).toArray) (.agg (bv oneD).toArray) = some (.bool true) := by rw [eqA32 (legG_len _ _ _ _) lO, decide_eq_false legA_1]; rfl
  (refine W_at c7_ok ?_; refine ⟨_, rfl, ?_⟩; simp (disch := first | omega | assumption | rfl | (simp only [vcS] <;> omega) | fail) only [↓vcL1, ptS2_eq, ↓vcA, vcB, ↓vcD, vcE, ↓reduceIte, Nat.reduceEqDiff, Nat.reduceAdd, Nat.reduceMul, Nat.reduceLeDiff, Int.reduceLE, Int.reduceLT, Int.reduceEq, Int.reduceToNat, Int.reduceAdd, Int.reduceSub, Int.reduceMul, Int.reduceNeg, reduceCtorEq, Option.bind_some, Option.map_some, List.length_cons, List.length_nil, vcM, List.getElem?_toArray, List.getElem?_cons_zero, List.getElem?_cons_succ, d1, r4])
  refine callV_ret (legacy2_ok w2 _ _ txA hR txA_lm 0 _ [] (Rd.nil w2) byt_nil (by simp) 3 (by omega) (by omega)) ?_
  rintro _ w3 ⟨rfl, hE3⟩
  rw [legA_3]
  have d13 := hE3.at d1 (fun h => h)
  simp (disch := first | omega | assumption | rfl | (simp only [vcS] <;> omega) | fail) only [↓vcL2, ptS1_eq, ↓vcA, vcB, ↓vcD, vcE, ↓reduceIte, Nat.reduceEqDiff, Nat.reduceAdd, Nat.reduceMul, Nat.reduceLeDiff, Int.reduceLE, Int.reduceLT, Int.reduceEq, Int.reduceToNat, Int.reduceAdd, Int.reduceSub, Int.reduceMul, Int.reduceNeg, reduceCtorEq, Option.bind_some, Option.map_some, List.length_cons, List.length_nil, vcM, List.getElem?_toArray, List.getElem?_cons_zero, List.getElem?_cons_succ, hbo, q3, d13, r4]
  refine callV_ret (legacy2_ok w3 _ _ txA (hR.ext hE3) txA_lm 0 _ [] (Rd.nil w3) byt_nil (by simp) 1 (by omega) (by omega)) ?_
  rintro _ w4 ⟨rfl, hE4⟩
  simp (disch := first | omega | assumption | rfl | (simp only [vcS] <;> omega) | fail) only [↓vcL1, ptS2_eq, ↓vcA, vcB, ↓vcD, vcE, ↓reduceIte, Nat.reduceEqDiff, Nat.reduceAdd, Nat.reduceMul, Nat.reduceLeDiff, Int.reduceLE, Int.reduceLT, Int.reduceEq, Int.reduceToNat, Int.reduceAdd, Int.reduceSub, Int.reduceMul, Int.reduceNeg, reduceCtorEq, Option.bind_some, Option.map_some, List.length_cons, List.length_nil, vcM, List.getElem?_toArray, List.getElem?_cons_zero, List.getElem?_cons_succ, hbo, q1]
  refine callV_ret (known_ok w4 131 (by omega)) ?_
  rintro _ w5 ⟨rfl, hw5⟩
  rw [hw5, show knownF 131 = true from rfl]
  simp (disch := first | omega | assumption | rfl | (simp only [vcS] <;> omega) | fail) only [↓vcL2, ptS1_eq, ↓vcA, vcB, ↓vcD, vcE, ↓reduceIte, Nat.reduceEqDiff, Nat.reduceAdd, Nat.reduceMul, Nat.reduceLeDiff, Int.reduceLE, Int.reduceLT, Int.reduceEq, Int.reduceToNat, Int.reduceAdd, Int.reduceSub, Int.reduceMul, Int.reduceNeg, reduceCtorEq, Option.bind_some, Option.map_some, List.length_cons, List.length_nil, vcM, List.getElem?_toArray, List.getElem?_cons_zero, List.getElem?_cons_succ]
  refine callV_ret (known_ok w4 4 (by omega)) ?_
  rintro _ w6 ⟨rfl, hw6⟩
  rw [hw6, show knownF 4 = false from rfl]
  first | (simp (disch := first | omega | assumption | rfl | (simp only [vcS] <;> omega) | fail) only [↓vcL1, ptS2_eq, ↓vcA, vcB, ↓vcD, vcE, ↓reduceIte, Nat.reduceEqDiff, Nat.reduceAdd, Nat.reduceMul, Nat.reduceLeDiff, Int.reduceLE, Int.reduceLT, Int.reduceEq, Int.reduceToNat, Int.reduceAdd, Int.reduceSub, Int.reduceMul, Int.reduceNeg, reduceCtorEq, Option.bind_some, Option.map_some, List.length_cons, List.length_nil, vcM, List.getElem?_toArray, List.getElem?_cons_zero, List.getElem?_cons_succ]) | skip
  (refine W_at c7_ok ?_; refine ⟨_, rfl, ?_⟩; simp (disch := first | omega | assumption | rfl | (simp only [vcS] <;> omega) | fail) only [↓ptV_l, ↓vcA, vcB, ↓vcD, vcE, ↓reduceIte, Nat.reduceEqDiff, Nat.reduceAdd, Nat.reduceMul, Nat.reduceLeDiff, Int.reduceLE, Int.reduceLT, Int.reduceEq, Int.reduceToNat, Int.reduceAdd, Int.reduceSub, Int.reduceMul, Int.reduceNeg, reduceCtorEq, Option.bind_some, Option.map_some, List.length_cons, List.length_nil, vcM, List.getElem?_toArray, List.getElem?_cons_zero, List.getElem?_cons_succ, Ret_returned])
  exact (hE.ext hE3).ext hE4
end Go.Proofs
namespace Go.Proofs
open Go.Vc
set_option maxRecDepth 10000

def IP0 (_ : Nat) (w : World) (c : Array Value) (x : TxI) : Prop := IP 0 w c x
structure FR (wB wj : World) (p7 : Nat) (t : TxV) (vx ox : Value) (L : List TxI) : Prop where
  ext : Ext wB wj
  c7 : wj.heap[p7]? = some (.cells (txC t vx ox) 26 (0, 0))
  ins : ListN IP0 50 36 wB.heap.size wj vx L
  outs : ListN OG 54 2 wB.heap.size wj ox t.outs
  l7 : wB.heap.size ≤ p7
theorem IP0.keepT {m : Nat} {S : Nat → Prop} {w w' : World} {c : Array Value} {x : TxI} (h : IP0 m w c x) (k : Keep S w w') (hS : ∀ g, S g → ∀ c, w.heap[g]? ≠ some (.cells c 5 (0, 0)) ∧ w.heap[g]? ≠ some (.cells c 27 (0, 0))) : IP0 m w' c x := IP.keepT h k hS
section
variable {wB wj w' : World} {p7 : Nat} {t : TxV} {vx ox : Value} {L : List TxI}
theorem FR.keep (h : FR wB wj p7 t vx ox L) (k : Ext wj w') : FR wB w' p7 t vx ox L :=
  ⟨h.ext.ext k, k.at h.c7 (fun h => h), ListN.keepT h.ins k (fun _ h => h.elim) fun _ _ h => IP0.keepT h k fun _ h => h.elim, ListN.keepT h.outs k (fun _ h => h.elim) fun _ _ h => OG.keepT h k fun _ h => h.elim, h.l7⟩
theorem FR.blk (h : FR wB wj p7 t vx ox L) {g o n cap : Nat} (he : vx = .slice (some ⟨g, o, none⟩) n cap) : wB.heap.size ≤ g ∧ ∃ c, wj.heap[g]? = some (.cells c 50 (0, 0)) := ListN.blkT h.ins (g := g) (by rw [he]; rfl)
/-- The rest, when the inputs' block changes. -/
theorem FR.step (h : FR wB wj p7 t vx ox L) {g : Nat} (hb : wB.heap.size ≤ g ∧ ∃ c, wj.heap[g]? = some (.cells c 50 (0, 0))) (hk : Keep (fun y => y = g) wj w') {L' : List TxI} (hL : ListN IP0 50 36 wB.heap.size w' vx L') : FR wB w' p7 t vx ox L' := by
  obtain ⟨hm, cur, hg⟩ := hb
  have n5 := ne_T (T' := 5) hg (by decide)
  have n26 := ne_T (T' := 26) hg (by decide)
  have n54 := ne_T (T' := 54) hg (by decide)
  exact ⟨h.ext.trans hk fun y hy e => by omega, hk.at h.c7 fun e => n26 _ (e ▸ h.c7), hL, ListN.keepT h.outs hk (fun g' hg' c => by subst hg'; exact n54 c) fun _ _ hR => OG.keepT hR hk fun g' hg' c => by subst hg'; exact n5 c, h.l7⟩
theorem FR.setI (h : FR wB wj p7 t vx ox L) {g o n cap i j : Nat} (he : vx = .slice (some ⟨g, o, none⟩) n cap) (hi : i < L.length) (hj : j < 36) (val : Value) (x' : TxI)
    (hnew : ∀ w' c, Keep (fun y => y = g) wj w' → (∀ c', wj.heap[g]? ≠ some (.cells c' 5 (0, 0)) ∧ wj.heap[g]? ≠ some (.cells c' 27 (0, 0))) → IP 0 wj c L[i] → IP 0 w' (c.setIfInBounds j val) x') :
    wr1 wj g (o + i * 36 + j) ∧ FR wB (wj.setCell ⟨g, o + i * 36 + j, none⟩ val) p7 t vx ox (L.set i x') := by
  have hk : Keep (fun y => y = g) wj (wj.setCell ⟨g, o + i * 36 + j, none⟩ val) := (Keep.refl _ wj).setCell _ fun _ => rfl
  have hb := h.blk he
  obtain ⟨hm, cur, hg⟩ := id hb
  have n5 := ne_T (T' := 5) hg (by decide)
  have n27 := ne_T (T' := 27) hg (by decide)
  obtain ⟨hw, hL⟩ := ListN.setc h.ins he hi hj val x' (fun c hc => hnew _ c hk (fun c' => ⟨n5 c', n27 c'⟩) hc) fun c x hR => IP0.keepT hR hk fun g' hg' c => by subst hg'; exact ⟨n5 c, n27 c⟩
  exact ⟨hw, h.step hb hk hL⟩
theorem FR.putI (h : FR wB wj p7 t vx ox L) {g o n cap i : Nat} (he : vx = .slice (some ⟨g, o, none⟩) n cap) (hi : i < L.length) (prev : List Int) (idx : Int) (hp : prev.length = 32) (hx : L[i].prev.length = 32) :
    (∃ cur, wj.heap[g]? = some (.cells cur 50 (0, 0)) ∧ o + i * 36 + 33 ≤ cur.size) ∧ FR wB (wj.putN g (o + i * 36) (pC prev idx)) p7 t vx ox (L.set i { L[i] with prev := prev, idx := idx }) := by
  have hk : Keep (fun y => y = g) wj (wj.putN g (o + i * 36) (pC prev idx)) := (Keep.refl _ wj).putN _ fun _ => rfl
  have hb := h.blk he
  obtain ⟨hm, cur, hg⟩ := id hb
  have n5 := ne_T (T' := 5) hg (by decide)
  have n27 := ne_T (T' := 27) hg (by decide)
  have h33 := pC_size hp idx
  obtain ⟨hw, hL⟩ := ListN.putc h.ins he hi (pC prev idx) (by omega) { L[i] with prev := prev, idx := idx } (fun c hc => by
    obtain ⟨sv, wv, rfl, h2, h3⟩ := hc
    rw [iC_put hx sv wv prev idx hp]
    exact ⟨sv, wv, rfl, h2.keepT hk fun g' hg' c => by subst hg'; exact n5 c, h3.keepT hk fun g' hg' c => by subst hg'; exact ⟨n5 c, n27 c⟩⟩) fun c x hR => IP0.keepT hR hk fun g' hg' c => by subst hg'; exact ⟨n5 c, n27 c⟩
  rw [h33] at hw
  exact ⟨hw, h.step hb hk hL⟩
end
/-- An input's parts that are written over. -/
theorem IP.script {w w' : World} {c : Array Value} {x : TxI} {S : Nat → Prop} (h : IP 0 w c x) (hx : x.prev.length = 32) (k : Keep S w w') (hS : ∀ g, S g → ∀ c, w.heap[g]? ≠ some (.cells c 5 (0, 0)) ∧ w.heap[g]? ≠ some (.cells c 27 (0, 0))) {v : Value} {bs : List Int} (hv : B5 w' v bs) : IP 0 w' (c.setIfInBounds 33 v) { x with script := bs } := by
  obtain ⟨sv, wv, rfl, h2, h3⟩ := h
  exact ⟨v, wv, iC_set33 hx sv wv v, hv, h3.keepT k hS⟩
theorem IP.wit {w w' : World} {c : Array Value} {x : TxI} {S : Nat → Prop} (h : IP 0 w c x) (hx : x.prev.length = 32) (k : Keep S w w') (hS : ∀ g, S g → ∀ c, w.heap[g]? ≠ some (.cells c 5 (0, 0)) ∧ w.heap[g]? ≠ some (.cells c 27 (0, 0))) {v : Value} {ps : List (List Int)} (hv : GP 0 w' v ps) : IP 0 w' (c.setIfInBounds 35 v) { x with wit := ps } := by
  obtain ⟨sv, wv, rfl, h2, h3⟩ := h
  exact ⟨sv, v, iC_set35 hx sv wv v, h2.keepT k fun g hg c => (hS g hg c).1, hv⟩
theorem IP.seq {w w' : World} {c : Array Value} {x : TxI} {S : Nat → Prop} (h : IP 0 w c x) (hx : x.prev.length = 32) (k : Keep S w w') (hS : ∀ g, S g → ∀ c, w.heap[g]? ≠ some (.cells c 5 (0, 0)) ∧ w.heap[g]? ≠ some (.cells c 27 (0, 0))) (n : Int) : IP 0 w' (c.setIfInBounds 34 (.int .u32 n)) { x with seq := n } := by
  obtain ⟨sv, wv, rfl, h2, h3⟩ := h
  exact ⟨sv, wv, iC_set34 hx sv wv n, h2.keepT k fun g hg c => (hS g hg c).1, h3.keepT k hS⟩
/-- As far as the loop has come. -/
def modTo (us : List TxI) (n : Nat) (kind : Int) (k : Nat) (l : List TxI) : List TxI := l.mapIdx fun a x => if a < k then modI us n kind a x else x
section
variable {us : List TxI} {n : Nat} {kind : Int}
theorem modTo_len (k : Nat) (l : List TxI) : (modTo us n kind k l).length = l.length := by simp [modTo]
theorem modTo_0 (l : List TxI) : modTo us n kind 0 l = l := by
  refine List.ext_getElem (by simp [modTo]) fun a b c => ?_
  simp [modTo]
theorem modTo_all (l : List TxI) : modTo us n kind l.length l = l.mapIdx (modI us n kind) := by
  refine List.ext_getElem (by simp [modTo]) fun a b c => ?_
  have : a < l.length := by simpa [modTo] using b
  simp [modTo, this]
theorem modTo_at {k : Nat} {l : List TxI} (h : k < l.length) : (modTo us n kind k l)[k]'(by rw [modTo_len]; exact h) = l[k] := by
  simp [modTo]
theorem modTo_succ {k : Nat} {l : List TxI} (h : k < l.length) : (modTo us n kind k l).set k (modI us n kind k l[k]) = modTo us n kind (k + 1) l := by
  refine List.ext_getElem (by simp [modTo]) fun a b c => ?_
  by_cases hk : k = a
  · subst hk
    rw [List.getElem_set_self]
    simp [modTo]
  · rw [List.getElem_set_ne hk]
    by_cases h1 : a < k
    · simp [modTo, h1, show a < k + 1 by omega]
    · simp [modTo, h1, show ¬ a < k + 1 by omega]
end
end Go.Proofs
namespace Go.Proofs
open Go.Vc
set_option maxRecDepth 10000

theorem FR.set2 {wB wj : World} {p7 : Nat} {t : TxV} {vx ox : Value} {L : List TxI} {x : TxI} {g o n cap i j : Nat} (h : FR wB wj p7 t vx ox (L.set i x)) (he : vx = .slice (some ⟨g, o, none⟩) n cap) (hi : i < L.length) (hj : j < 36) (val : Value) (x' : TxI)
    (hnew : ∀ w' c, Keep (fun y => y = g) wj w' → (∀ c', wj.heap[g]? ≠ some (.cells c' 5 (0, 0)) ∧ wj.heap[g]? ≠ some (.cells c' 27 (0, 0))) → IP 0 wj c x → IP 0 w' (c.setIfInBounds j val) x') :
    wr1 wj g (o + i * 36 + j) ∧ FR wB (wj.setCell ⟨g, o + i * 36 + j, none⟩ val) p7 t vx ox (L.set i x') := by
  have := h.setI he (by rw [List.length_set]; exact hi) hj val x' (by rw [List.getElem_set_self]; exact hnew)
  rw [List.set_set] at this
  exact this
theorem FR.put2 {wB wj : World} {p7 : Nat} {t : TxV} {vx ox : Value} {L : List TxI} {x : TxI} {g o n cap i : Nat} (h : FR wB wj p7 t vx ox (L.set i x)) (he : vx = .slice (some ⟨g, o, none⟩) n cap) (hi : i < L.length) (prev : List Int) (idx : Int) (hp : prev.length = 32) (hx : x.prev.length = 32) :
    (∃ cur, wj.heap[g]? = some (.cells cur 50 (0, 0)) ∧ o + i * 36 + 33 ≤ cur.size) ∧ FR wB (wj.putN g (o + i * 36) (pC prev idx)) p7 t vx ox (L.set i { x with prev := prev, idx := idx }) := by
  have := h.putI he (by rw [List.length_set]; exact hi) prev idx hp (by rw [List.getElem_set_self]; exact hx)
  rw [List.set_set, List.getElem_set_self] at this
  exact this
set_option maxHeartbeats 6400000 in
theorem free_loop (Q : Ending → World → Prop) (wB : World) (p3 p4 p5 p7 n mu : Nat) (t u : TxV) (vx ox iu ou sx : Value) (kind value : Int) (hk : 0 ≤ kind ∧ kind ≤ 255) (h4 : wB.heap[p4]? = some (.cells (txC u iu ou) 26 (0, 0))) (h5 : wB.heap[p5]? = some (.cells (wyC n kind sx value) 29 (0, 0)))
    (hU : TxT mu wB iu ou u) (hok : t.Ok) (hou : u.Ok) (hn : t.ins.length ≤ 1000) (hnu : u.ins.length ≤ 1000)
    (done : ∀ wj tl, FR wB wj p7 t vx ox (t.ins.mapIdx (modI u.ins n kind)) → W Try.prog Q 6 12 ((3, .pointer (some ⟨p3, 0, none⟩)) :: (4, .pointer (some ⟨p4, 0, none⟩)) :: (5, .pointer (some ⟨p5, 0, none⟩)) :: (7, .pointer (some ⟨p7, 0, none⟩)) :: (8, .int .u8 (kind % 32)) :: tl) wj) :
    ∀ (k i : Nat) (wj : World) (tl : Env), i + k = t.ins.length → FR wB wj p7 t vx ox (modTo u.ins n kind i t.ins) →
      W Try.prog Q 6 26 ((3, .pointer (some ⟨p3, 0, none⟩)) :: (4, .pointer (some ⟨p4, 0, none⟩)) :: (5, .pointer (some ⟨p5, 0, none⟩)) :: (7, .pointer (some ⟨p7, 0, none⟩)) :: (8, .int .u8 (kind % 32)) :: (35, .int .i64 (t.ins.length : Nat)) :: (36, .int .i64 (i : Nat)) :: tl) wj := by
  have u1 : (txC u iu ou)[1]? = some iu := rfl
  have hlu := ListN.len hU.ins
  have y0 : (wyC n kind sx value)[0]? = some (.int .i64 (n : Nat)) := rfl
  have y1 : (wyC n kind sx value)[1]? = some (.int .u8 kind) := rfl
  intro k
  induction k with
  | zero =>
    intro i wj tl hi hP
    obtain rfl : i = t.ins.length := by omega
    rw [modTo_all] at hP
    have hno : ¬ ((t.ins.length : Nat) : Int) < (t.ins.length : Nat) := by omega
    (refine W_at c6_ok ?_; refine ⟨_, rfl, ?_⟩; simp (disch := first | omega | assumption | rfl | (simp only [vcS] <;> omega) | fail) only [↓ptV_l, ↓vcA, vcB, ↓vcD, vcE, ↓reduceIte, Nat.reduceEqDiff, Nat.reduceAdd, Nat.reduceMul, Nat.reduceLeDiff, Int.reduceLE, Int.reduceLT, Int.reduceEq, Int.reduceToNat, Int.reduceAdd, Int.reduceSub, Int.reduceMul, Int.reduceNeg, reduceCtorEq, Option.bind_some, Option.map_some, List.length_cons, List.length_nil, vcM, List.getElem?_toArray, List.getElem?_cons_zero, List.getElem?_cons_succ, hno])
    (refine W_at c6_ok ?_; refine ⟨_, rfl, ?_⟩; simp (disch := first | omega | assumption | rfl | (simp only [vcS] <;> omega) | fail) only [↓ptV_l, ↓vcA, vcB, ↓vcD, vcE, ↓reduceIte, Nat.reduceEqDiff, Nat.reduceAdd, Nat.reduceMul, Nat.reduceLeDiff, Int.reduceLE, Int.reduceLT, Int.reduceEq, Int.reduceToNat, Int.reduceAdd, Int.reduceSub, Int.reduceMul, Int.reduceNeg, reduceCtorEq, Option.bind_some, Option.map_some, List.length_cons, List.length_nil, vcM, List.getElem?_toArray, List.getElem?_cons_zero, List.getElem?_cons_succ])
    exact done wj _ hP
  | succ k ih =>
    intro i wj tl hi hP
    have hil : i < t.ins.length := by omega
    have hlt : ((i : Nat) : Int) < (t.ins.length : Nat) := by omega
    have hwi : IntKind.i64.wrap (((i : Nat) : Int) + 1) = ((i + 1 : Nat) : Int) := wrap_i64 (by omega) (by omega)
    have hML : i < (modTo u.ins n kind i t.ins).length := by rw [modTo_len]; exact hil
    have hxo := hok.ins _ (List.getElem_mem hil)
    have next : ∀ wz tl, FR wB wz p7 t vx ox ((modTo u.ins n kind i t.ins).set i (modI u.ins n kind i t.ins[i])) → W Try.prog Q 6 14 ((3, .pointer (some ⟨p3, 0, none⟩)) :: (4, .pointer (some ⟨p4, 0, none⟩)) :: (5, .pointer (some ⟨p5, 0, none⟩)) :: (7, .pointer (some ⟨p7, 0, none⟩)) :: (8, .int .u8 (kind % 32)) :: (35, .int .i64 (t.ins.length : Nat)) :: (36, .int .i64 (i : Nat)) :: tl) wz := by
      intro wz tl hz
      rw [modTo_succ hil] at hz
      (refine W_at c6_ok ?_; refine ⟨_, rfl, ?_⟩; simp (disch := first | omega | assumption | rfl | (simp only [vcS] <;> omega) | fail) only [↓ptV_l, ↓vcA, vcB, ↓vcD, vcE, ↓reduceIte, Nat.reduceEqDiff, Nat.reduceAdd, Nat.reduceMul, Nat.reduceLeDiff, Int.reduceLE, Int.reduceLT, Int.reduceEq, Int.reduceToNat, Int.reduceAdd, Int.reduceSub, Int.reduceMul, Int.reduceNeg, reduceCtorEq, Option.bind_some, Option.map_some, List.length_cons, List.length_nil, vcM, List.getElem?_toArray, List.getElem?_cons_zero, List.getElem?_cons_succ, hwi])
      (refine W_at c6_ok ?_; refine ⟨_, rfl, ?_⟩; simp (disch := first | omega | assumption | rfl | (simp only [vcS] <;> omega) | fail) only [↓ptV_l, ↓vcA, vcB, ↓vcD, vcE, ↓reduceIte, Nat.reduceEqDiff, Nat.reduceAdd, Nat.reduceMul, Nat.reduceLeDiff, Int.reduceLE, Int.reduceLT, Int.reduceEq, Int.reduceToNat, Int.reduceAdd, Int.reduceSub, Int.reduceMul, Int.reduceNeg, reduceCtorEq, Option.bind_some, Option.map_some, List.length_cons, List.length_nil, vcM, List.getElem?_toArray, List.getElem?_cons_zero, List.getElem?_cons_succ])
      exact ih (i + 1) wz _ (by omega) hz
    have h4j := hP.ext.at h4 (fun h => h)
    (refine W_at c6_ok ?_; refine ⟨_, rfl, ?_⟩; simp (disch := first | omega | assumption | rfl | (simp only [vcS] <;> omega) | fail) only [↓ptV_l, ↓vcA, vcB, ↓vcD, vcE, ↓reduceIte, Nat.reduceEqDiff, Nat.reduceAdd, Nat.reduceMul, Nat.reduceLeDiff, Int.reduceLE, Int.reduceLT, Int.reduceEq, Int.reduceToNat, Int.reduceAdd, Int.reduceSub, Int.reduceMul, Int.reduceNeg, reduceCtorEq, Option.bind_some, Option.map_some, List.length_cons, List.length_nil, vcM, List.getElem?_toArray, List.getElem?_cons_zero, List.getElem?_cons_succ, hlt])
    (refine W_at c6_ok ?_; refine ⟨_, rfl, ?_⟩; simp (disch := first | omega | assumption | rfl | (simp only [vcS] <;> omega) | fail) only [↓ptV_l, ↓vcA, vcB, ↓vcD, vcE, ↓reduceIte, Nat.reduceEqDiff, Nat.reduceAdd, Nat.reduceMul, Nat.reduceLeDiff, Int.reduceLE, Int.reduceLT, Int.reduceEq, Int.reduceToNat, Int.reduceAdd, Int.reduceSub, Int.reduceMul, Int.reduceNeg, reduceCtorEq, Option.bind_some, Option.map_some, List.length_cons, List.length_nil, vcM, List.getElem?_toArray, List.getElem?_cons_zero, List.getElem?_cons_succ])
    (refine W_at c6_ok ?_; refine ⟨_, rfl, ?_⟩; simp (disch := first | omega | assumption | rfl | (simp only [vcS] <;> omega) | fail) only [↓ptV_l, ↓vcA, vcB, ↓vcD, vcE, ↓reduceIte, Nat.reduceEqDiff, Nat.reduceAdd, Nat.reduceMul, Nat.reduceLeDiff, Int.reduceLE, Int.reduceLT, Int.reduceEq, Int.reduceToNat, Int.reduceAdd, Int.reduceSub, Int.reduceMul, Int.reduceNeg, reduceCtorEq, Option.bind_some, Option.map_some, List.length_cons, List.length_nil, vcM, List.getElem?_toArray, List.getElem?_cons_zero, List.getElem?_cons_succ])
    by_cases hiu : i < u.ins.length
    · have hlt2 : ((i : Nat) : Int) < (u.ins.length : Nat) := by omega
      have b1 : 0 ≤ ((i : Nat) : Int) ∧ ((i : Nat) : Int) < (t.ins.length : Nat) := by omega
      have b2 : 0 ≤ ((i : Nat) : Int) ∧ ((i : Nat) : Int) < (u.ins.length : Nat) := by omega
      have emod : modI u.ins n kind i t.ins[i] = modY n kind i t.ins[i] u.ins[i] := by unfold modI; rw [dif_pos hiu]
      rw [emod] at next
      have hyo := hou.ins _ (List.getElem_mem hiu)
      obtain ⟨bu, o2, cu, cs, eu, hru, ⟨sv, wv, rfl, hsv, hwv⟩, _⟩ := ListN.at hU.ins hiu
      obtain ⟨gx, o1, cx, ds, ex, _, _⟩ := ListN.at hP.ins hML
      rw [modTo_len] at ex
      have u1' : (txC u iu ou)[1]? = some (.slice (some ⟨bu, o2, none⟩) u.ins.length cu) := by rw [u1, eu]
      have x1' : (txC t vx ox)[1]? = some (.slice (some ⟨gx, o1, none⟩) t.ins.length cx) := by rw [← ex]; rfl
      have hP0 : FR wB wj p7 t vx ox ((modTo u.ins n kind i t.ins).set i t.ins[i]) := by
        have e := modTo_at (us := u.ins) (n := n) (kind := kind) hil
        rw [← e, List.set_getElem_self]
        exact hP
      generalize t.ins[i] = x at hxo next hP0
      generalize u.ins[i] = y at hyo next hru hsv hwv
      have hcel : ∀ wz, Ext wB wz → _ := fun wz hz => in_cells hyo.len hru hz
      have hpl := hxo.len
      -- the previous place, of one input alone
      have st17 : ∀ wz tl sq, FR wB wz p7 t vx ox ((modTo u.ins n kind i t.ins).set i { x with script := y.script, wit := y.wit, seq := sq }) → (¬ (i ≠ n ∧ 128 ≤ kind) → sq = (modY n kind i x y).seq) →
          W Try.prog Q 6 17 ((3, .pointer (some ⟨p3, 0, none⟩)) :: (4, .pointer (some ⟨p4, 0, none⟩)) :: (5, .pointer (some ⟨p5, 0, none⟩)) :: (7, .pointer (some ⟨p7, 0, none⟩)) :: (8, .int .u8 (kind % 32)) :: (9, .int .i64 (i : Nat)) :: (35, .int .i64 (t.ins.length : Nat)) :: (36, .int .i64 (i : Nat)) :: tl) wz := by
        intro wz tl sq hz hsq
        have h5z := hz.ext.at h5 (fun h => h)
        have fin : ∀ tl, ¬ (i ≠ n ∧ 128 ≤ kind) → W Try.prog Q 6 14 ((3, .pointer (some ⟨p3, 0, none⟩)) :: (4, .pointer (some ⟨p4, 0, none⟩)) :: (5, .pointer (some ⟨p5, 0, none⟩)) :: (7, .pointer (some ⟨p7, 0, none⟩)) :: (8, .int .u8 (kind % 32)) :: (9, .int .i64 (i : Nat)) :: (35, .int .i64 (t.ins.length : Nat)) :: (36, .int .i64 (i : Nat)) :: tl) wz := by
          intro tl hno
          refine W_env (next wz [] ?_) ?_
          · have e : modY n kind i x y = { x with script := y.script, wit := y.wit, seq := sq } := by
              rw [hsq hno]
              unfold modY
              rw [if_neg hno, if_neg hno]
            rw [e]; exact hz
          · intro p hp
            simp only [List.mem_cons, List.not_mem_nil, or_false] at hp
            rcases hp with rfl | rfl | rfl | rfl | rfl | rfl | rfl <;> rfl
        by_cases hin : i = n
        · subst hin
          (refine W_at c6_ok ?_; refine ⟨_, rfl, ?_⟩; simp (disch := first | omega | assumption | rfl | (simp only [vcS] <;> omega) | fail) only [↓ptV_l, ↓vcA, vcB, ↓vcD, vcE, ↓reduceIte, Nat.reduceEqDiff, Nat.reduceAdd, Nat.reduceMul, Nat.reduceLeDiff, Int.reduceLE, Int.reduceLT, Int.reduceEq, Int.reduceToNat, Int.reduceAdd, Int.reduceSub, Int.reduceMul, Int.reduceNeg, reduceCtorEq, Option.bind_some, Option.map_some, List.length_cons, List.length_nil, vcM, List.getElem?_toArray, List.getElem?_cons_zero, List.getElem?_cons_succ, h5z, y0, y1])
          (refine W_at c6_ok ?_; refine ⟨_, rfl, ?_⟩; simp (disch := first | omega | assumption | rfl | (simp only [vcS] <;> omega) | fail) only [↓ptV_l, ↓vcA, vcB, ↓vcD, vcE, ↓reduceIte, Nat.reduceEqDiff, Nat.reduceAdd, Nat.reduceMul, Nat.reduceLeDiff, Int.reduceLE, Int.reduceLT, Int.reduceEq, Int.reduceToNat, Int.reduceAdd, Int.reduceSub, Int.reduceMul, Int.reduceNeg, reduceCtorEq, Option.bind_some, Option.map_some, List.length_cons, List.length_nil, vcM, List.getElem?_toArray, List.getElem?_cons_zero, List.getElem?_cons_succ])
          exact fin _ fun h => h.1 rfl
        have hin' : ¬ ((i : Nat) : Int) = (n : Nat) := by omega
        by_cases ha : 128 ≤ kind
        · have c7z := hz.c7
          have h4z := hz.ext.at h4 (fun h => h)
          obtain ⟨q1, q2, q3, q4⟩ := hcel wz hz.ext
          have hEd : Ext wz wz.drew := (Keep.refl _ wz).drew
          obtain ⟨⟨cur, hcur, hle⟩, hz2⟩ := (hz.keep hEd).put2 ex hML y.prev y.idx hyo.len hpl
          have hcur' : wz.heap[gx]? = some (.cells cur 50 (0, 0)) := hcur
          have ho : okO (some (.cells cur 50 (0, 0))) (o1 + i * 36) 33 = True := by simp only [okO]; simp; omega
          have hps := pC_size hyo.len y.idx
          (refine W_at c6_ok ?_; refine ⟨_, rfl, ?_⟩; simp (disch := first | omega | assumption | rfl | (simp only [vcS] <;> omega) | fail) only [↓ptV_l, ↓vcA, vcB, ↓vcD, vcE, ↓reduceIte, Nat.reduceEqDiff, Nat.reduceAdd, Nat.reduceMul, Nat.reduceLeDiff, Int.reduceLE, Int.reduceLT, Int.reduceEq, Int.reduceToNat, Int.reduceAdd, Int.reduceSub, Int.reduceMul, Int.reduceNeg, reduceCtorEq, Option.bind_some, Option.map_some, List.length_cons, List.length_nil, vcM, List.getElem?_toArray, List.getElem?_cons_zero, List.getElem?_cons_succ, h5z, y0, y1, hin', ha])
          (refine W_at c6_ok ?_; refine ⟨_, rfl, ?_⟩; simp (disch := first | omega | assumption | rfl | (simp only [vcS] <;> omega) | fail) only [↓ptV_l, ↓vcA, vcB, ↓vcD, vcE, ↓reduceIte, Nat.reduceEqDiff, Nat.reduceAdd, Nat.reduceMul, Nat.reduceLeDiff, Int.reduceLE, Int.reduceLT, Int.reduceEq, Int.reduceToNat, Int.reduceAdd, Int.reduceSub, Int.reduceMul, Int.reduceNeg, reduceCtorEq, Option.bind_some, Option.map_some, List.length_cons, List.length_nil, vcM, List.getElem?_toArray, List.getElem?_cons_zero, List.getElem?_cons_succ])
          (refine W_at c6_ok ?_; refine ⟨_, rfl, ?_⟩; simp (disch := first | omega | assumption | rfl | (simp only [vcS] <;> omega) | fail) only [↓vcL1, ptS2_eq, ↓vcA, vcB, ↓vcD, vcE, ↓reduceIte, Nat.reduceEqDiff, Nat.reduceAdd, Nat.reduceMul, Nat.reduceLeDiff, Int.reduceLE, Int.reduceLT, Int.reduceEq, Int.reduceToNat, Int.reduceAdd, Int.reduceSub, Int.reduceMul, Int.reduceNeg, reduceCtorEq, Option.bind_some, Option.map_some, List.length_cons, List.length_nil, vcM, List.getElem?_toArray, List.getElem?_cons_zero, List.getElem?_cons_succ, c7z, x1', b1, h4z, u1', b2, Int.toNat_natCast, q1, q2, hcur, hcur', ho, hps])
          have hE2 := pC_flat y.prev y.idx
          refine ⟨hE2, by rw [hz2.c7]; exact x1', ?_⟩
          obtain ⟨hw3, hz3⟩ := hz2.set2 ex hML (j := 34) (by decide) (.int .u32 y.seq) { x with script := y.script, wit := y.wit, prev := y.prev, idx := y.idx, seq := y.seq } (fun w' c hk hS hI => IP.seq hI hyo.len hk (fun g hg c => by subst hg; exact hS c) y.seq)
          refine ⟨hw3, ?_⟩
          refine next _ [] ?_
          have e : modY n kind i x y = { x with script := y.script, wit := y.wit, prev := y.prev, idx := y.idx, seq := y.seq } := by
            unfold modY
            rw [if_pos ⟨hin, ha⟩, if_pos ⟨hin, ha⟩, if_pos ⟨hin, .inl ha⟩]
          rw [e]; exact hz3
        · (refine W_at c6_ok ?_; refine ⟨_, rfl, ?_⟩; simp (disch := first | omega | assumption | rfl | (simp only [vcS] <;> omega) | fail) only [↓ptV_l, ↓vcA, vcB, ↓vcD, vcE, ↓reduceIte, Nat.reduceEqDiff, Nat.reduceAdd, Nat.reduceMul, Nat.reduceLeDiff, Int.reduceLE, Int.reduceLT, Int.reduceEq, Int.reduceToNat, Int.reduceAdd, Int.reduceSub, Int.reduceMul, Int.reduceNeg, reduceCtorEq, Option.bind_some, Option.map_some, List.length_cons, List.length_nil, vcM, List.getElem?_toArray, List.getElem?_cons_zero, List.getElem?_cons_succ, h5z, y0, y1, hin', ha])
          (refine W_at c6_ok ?_; refine ⟨_, rfl, ?_⟩; simp (disch := first | omega | assumption | rfl | (simp only [vcS] <;> omega) | fail) only [↓ptV_l, ↓vcA, vcB, ↓vcD, vcE, ↓reduceIte, Nat.reduceEqDiff, Nat.reduceAdd, Nat.reduceMul, Nat.reduceLeDiff, Int.reduceLE, Int.reduceLT, Int.reduceEq, Int.reduceToNat, Int.reduceAdd, Int.reduceSub, Int.reduceMul, Int.reduceNeg, reduceCtorEq, Option.bind_some, Option.map_some, List.length_cons, List.length_nil, vcM, List.getElem?_toArray, List.getElem?_cons_zero, List.getElem?_cons_succ])
          exact fin _ fun h => ha h.2
      have hsv1 := hsv
      (refine W_at c6_ok ?_; refine ⟨_, rfl, ?_⟩; simp (disch := first | omega | assumption | rfl | (simp only [vcS] <;> omega) | fail) only [↓ptV_l, ↓vcA, vcB, ↓vcD, vcE, ↓reduceIte, Nat.reduceEqDiff, Nat.reduceAdd, Nat.reduceMul, Nat.reduceLeDiff, Int.reduceLE, Int.reduceLT, Int.reduceEq, Int.reduceToNat, Int.reduceAdd, Int.reduceSub, Int.reduceMul, Int.reduceNeg, reduceCtorEq, Option.bind_some, Option.map_some, List.length_cons, List.length_nil, vcM, List.getElem?_toArray, List.getElem?_cons_zero, List.getElem?_cons_succ, h4j, u1, hlu, hlt2])
      (refine W_at c6_ok ?_; refine ⟨_, rfl, ?_⟩; simp (disch := first | omega | assumption | rfl | (simp only [vcS] <;> omega) | fail) only [↓ptV_l, ↓vcA, vcB, ↓vcD, vcE, ↓reduceIte, Nat.reduceEqDiff, Nat.reduceAdd, Nat.reduceMul, Nat.reduceLeDiff, Int.reduceLE, Int.reduceLT, Int.reduceEq, Int.reduceToNat, Int.reduceAdd, Int.reduceSub, Int.reduceMul, Int.reduceNeg, reduceCtorEq, Option.bind_some, Option.map_some, List.length_cons, List.length_nil, vcM, List.getElem?_toArray, List.getElem?_cons_zero, List.getElem?_cons_succ])
      have c7j := hP.c7
      obtain ⟨q1, q2, q3, q4⟩ := hcel wj hP.ext
      (refine W_at c6_ok ?_; refine ⟨_, rfl, ?_⟩; simp (disch := first | omega | assumption | rfl | (simp only [vcS] <;> omega) | fail) only [↓vcL1, ptS2_eq, ↓vcA, vcB, ↓vcD, vcE, ↓reduceIte, Nat.reduceEqDiff, Nat.reduceAdd, Nat.reduceMul, Nat.reduceLeDiff, Int.reduceLE, Int.reduceLT, Int.reduceEq, Int.reduceToNat, Int.reduceAdd, Int.reduceSub, Int.reduceMul, Int.reduceNeg, reduceCtorEq, Option.bind_some, Option.map_some, List.length_cons, List.length_nil, vcM, List.getElem?_toArray, List.getElem?_cons_zero, List.getElem?_cons_succ, c7j, x1', b1, h4j, u1', b2, Int.toNat_natCast, q3, q4])
      have hEd : Ext wj wj.drew := (Keep.refl _ wj).drew
      have hPd := hP0.keep hEd
      have hsvB : ∀ wz, Ext wB wz → B5 wz sv y.script := fun wz hz => hsv.keepT hz fun g hg => hg.elim
      have hwvB : ∀ wz, Ext wB wz → GP 0 wz wv y.wit := fun wz hz => by
        have h := hwv.keepT hz fun g hg => hg.elim
        rcases h with h | ⟨g, o, cap, cs, e, hg, r⟩
        · exact .inl h
        · exact .inr ⟨g, o, cap, cs, e, Nat.zero_le _, r⟩
      obtain ⟨hw1, hP1⟩ := hPd.set2 ex hML (j := 33) (by decide) sv { x with script := y.script } (fun w' c hk hS hI => IP.script hI hpl hk (fun g hg c => by subst hg; exact hS c) ((hsvB _ hPd.ext).keepT hk fun g hg c => by subst hg; exact (hS c).1))
      obtain ⟨hw2, hP2⟩ := hP1.set2 ex hML (j := 35) (by decide) wv { x with script := y.script, wit := y.wit } (fun w' c hk hS hI => IP.wit hI hpl hk (fun g hg c => by subst hg; exact hS c) ((hwvB _ hP1.ext).keepT hk fun g hg c => by subst hg; exact hS c))
      refine ⟨(hsvB _ hP.ext).1.one, hw1, by rw [hP1.c7]; exact x1', (hwvB _ hP.ext).rowR.one, hw2, ?_⟩
      generalize World.setCell _ _ _ = wz at hP2 ⊢
      clear hw2 hP1 hw1 hPd hEd hP0 hP q1 q2 q3 q4 c7j h4j
      have h5z := hP2.ext.at h5 (fun h => h)
      -- the sequence
      have fin : ∀ tl, ¬ (i ≠ n ∧ (kind % 32 = 2 ∨ kind % 32 = 3)) → W Try.prog Q 6 17 ((3, .pointer (some ⟨p3, 0, none⟩)) :: (4, .pointer (some ⟨p4, 0, none⟩)) :: (5, .pointer (some ⟨p5, 0, none⟩)) :: (7, .pointer (some ⟨p7, 0, none⟩)) :: (8, .int .u8 (kind % 32)) :: (9, .int .i64 (i : Nat)) :: (35, .int .i64 (t.ins.length : Nat)) :: (36, .int .i64 (i : Nat)) :: tl) wz := by
        intro tl hno
        refine st17 wz tl x.seq hP2 fun hna => ?_
        have : ¬ (i ≠ n ∧ (128 ≤ kind ∨ kind % 32 = 2 ∨ kind % 32 = 3)) := by
          rintro ⟨h1, h2 | h2⟩
          · exact hna ⟨h1, h2⟩
          · exact hno ⟨h1, h2⟩
        simp only [modY, if_neg this]
      have st18 : ∀ tl, i ≠ n → (kind % 32 = 2 ∨ kind % 32 = 3) → W Try.prog Q 6 18 ((3, .pointer (some ⟨p3, 0, none⟩)) :: (4, .pointer (some ⟨p4, 0, none⟩)) :: (5, .pointer (some ⟨p5, 0, none⟩)) :: (7, .pointer (some ⟨p7, 0, none⟩)) :: (8, .int .u8 (kind % 32)) :: (9, .int .i64 (i : Nat)) :: (35, .int .i64 (t.ins.length : Nat)) :: (36, .int .i64 (i : Nat)) :: tl) wz := by
        intro tl h1 h2
        have c7z := hP2.c7
        have h4z := hP2.ext.at h4 (fun h => h)
        obtain ⟨q1, q2, q3, q4⟩ := hcel wz hP2.ext
        have hEd : Ext wz wz.drew := (Keep.refl _ wz).drew
        obtain ⟨hw3, hz3⟩ := (hP2.keep hEd).set2 ex hML (j := 34) (by decide) (.int .u32 y.seq) { x with script := y.script, wit := y.wit, seq := y.seq } (fun w' c hk hS hI => IP.seq hI hpl hk (fun g hg c => by subst hg; exact hS c) y.seq)
        (refine W_at c6_ok ?_; refine ⟨_, rfl, ?_⟩; simp (disch := first | omega | assumption | rfl | (simp only [vcS] <;> omega) | fail) only [↓vcL1, ptS2_eq, ↓vcA, vcB, ↓vcD, vcE, ↓reduceIte, Nat.reduceEqDiff, Nat.reduceAdd, Nat.reduceMul, Nat.reduceLeDiff, Int.reduceLE, Int.reduceLT, Int.reduceEq, Int.reduceToNat, Int.reduceAdd, Int.reduceSub, Int.reduceMul, Int.reduceNeg, reduceCtorEq, Option.bind_some, Option.map_some, List.length_cons, List.length_nil, vcM, List.getElem?_toArray, List.getElem?_cons_zero, List.getElem?_cons_succ, c7z, x1', b1, h4z, u1', b2, Int.toNat_natCast, q2])
        refine ⟨hw3, ?_⟩
        refine st17 _ [] y.seq hz3 fun hna => ?_
        have : i ≠ n ∧ (128 ≤ kind ∨ kind % 32 = 2 ∨ kind % 32 = 3) := ⟨h1, .inr h2⟩
        simp only [modY, if_pos this]
      by_cases hin : i = n
      · subst hin
        (refine W_at c6_ok ?_; refine ⟨_, rfl, ?_⟩; simp (disch := first | omega | assumption | rfl | (simp only [vcS] <;> omega) | fail) only [↓ptV_l, ↓vcA, vcB, ↓vcD, vcE, ↓reduceIte, Nat.reduceEqDiff, Nat.reduceAdd, Nat.reduceMul, Nat.reduceLeDiff, Int.reduceLE, Int.reduceLT, Int.reduceEq, Int.reduceToNat, Int.reduceAdd, Int.reduceSub, Int.reduceMul, Int.reduceNeg, reduceCtorEq, Option.bind_some, Option.map_some, List.length_cons, List.length_nil, vcM, List.getElem?_toArray, List.getElem?_cons_zero, List.getElem?_cons_succ, h5z, y0])
        (refine W_at c6_ok ?_; refine ⟨_, rfl, ?_⟩; simp (disch := first | omega | assumption | rfl | (simp only [vcS] <;> omega) | fail) only [↓ptV_l, ↓vcA, vcB, ↓vcD, vcE, ↓reduceIte, Nat.reduceEqDiff, Nat.reduceAdd, Nat.reduceMul, Nat.reduceLeDiff, Int.reduceLE, Int.reduceLT, Int.reduceEq, Int.reduceToNat, Int.reduceAdd, Int.reduceSub, Int.reduceMul, Int.reduceNeg, reduceCtorEq, Option.bind_some, Option.map_some, List.length_cons, List.length_nil, vcM, List.getElem?_toArray, List.getElem?_cons_zero, List.getElem?_cons_succ])
        exact fin _ fun h => h.1 rfl
      have hin' : ¬ ((i : Nat) : Int) = (n : Nat) := by omega
      by_cases c2 : kind % 32 = 2
      · have d2 : decide (kind % 32 = 2) = true := decide_eq_true c2
        (refine W_at c6_ok ?_; refine ⟨_, rfl, ?_⟩; simp (disch := first | omega | assumption | rfl | (simp only [vcS] <;> omega) | fail) only [↓ptV_l, ↓vcA, vcB, ↓vcD, vcE, ↓reduceIte, Nat.reduceEqDiff, Nat.reduceAdd, Nat.reduceMul, Nat.reduceLeDiff, Int.reduceLE, Int.reduceLT, Int.reduceEq, Int.reduceToNat, Int.reduceAdd, Int.reduceSub, Int.reduceMul, Int.reduceNeg, reduceCtorEq, Option.bind_some, Option.map_some, List.length_cons, List.length_nil, vcM, List.getElem?_toArray, List.getElem?_cons_zero, List.getElem?_cons_succ, h5z, y0, hin', d2])
        (refine W_at c6_ok ?_; refine ⟨_, rfl, ?_⟩; simp (disch := first | omega | assumption | rfl | (simp only [vcS] <;> omega) | fail) only [↓ptV_l, ↓vcA, vcB, ↓vcD, vcE, ↓reduceIte, Nat.reduceEqDiff, Nat.reduceAdd, Nat.reduceMul, Nat.reduceLeDiff, Int.reduceLE, Int.reduceLT, Int.reduceEq, Int.reduceToNat, Int.reduceAdd, Int.reduceSub, Int.reduceMul, Int.reduceNeg, reduceCtorEq, Option.bind_some, Option.map_some, List.length_cons, List.length_nil, vcM, List.getElem?_toArray, List.getElem?_cons_zero, List.getElem?_cons_succ])
        exact st18 _ hin (.inl c2)
      have d2 : decide (kind % 32 = 2) = false := decide_eq_false c2
      by_cases c3 : kind % 32 = 3
      · have d3 : decide (kind % 32 = 3) = true := decide_eq_true c3
        (refine W_at c6_ok ?_; refine ⟨_, rfl, ?_⟩; simp (disch := first | omega | assumption | rfl | (simp only [vcS] <;> omega) | fail) only [↓ptV_l, ↓vcA, vcB, ↓vcD, vcE, ↓reduceIte, Nat.reduceEqDiff, Nat.reduceAdd, Nat.reduceMul, Nat.reduceLeDiff, Int.reduceLE, Int.reduceLT, Int.reduceEq, Int.reduceToNat, Int.reduceAdd, Int.reduceSub, Int.reduceMul, Int.reduceNeg, reduceCtorEq, Option.bind_some, Option.map_some, List.length_cons, List.length_nil, vcM, List.getElem?_toArray, List.getElem?_cons_zero, List.getElem?_cons_succ, h5z, y0, hin', d2, d3])
        (refine W_at c6_ok ?_; refine ⟨_, rfl, ?_⟩; simp (disch := first | omega | assumption | rfl | (simp only [vcS] <;> omega) | fail) only [↓ptV_l, ↓vcA, vcB, ↓vcD, vcE, ↓reduceIte, Nat.reduceEqDiff, Nat.reduceAdd, Nat.reduceMul, Nat.reduceLeDiff, Int.reduceLE, Int.reduceLT, Int.reduceEq, Int.reduceToNat, Int.reduceAdd, Int.reduceSub, Int.reduceMul, Int.reduceNeg, reduceCtorEq, Option.bind_some, Option.map_some, List.length_cons, List.length_nil, vcM, List.getElem?_toArray, List.getElem?_cons_zero, List.getElem?_cons_succ])
        exact st18 _ hin (.inr c3)
      · have d3 : decide (kind % 32 = 3) = false := decide_eq_false c3
        (refine W_at c6_ok ?_; refine ⟨_, rfl, ?_⟩; simp (disch := first | omega | assumption | rfl | (simp only [vcS] <;> omega) | fail) only [↓ptV_l, ↓vcA, vcB, ↓vcD, vcE, ↓reduceIte, Nat.reduceEqDiff, Nat.reduceAdd, Nat.reduceMul, Nat.reduceLeDiff, Int.reduceLE, Int.reduceLT, Int.reduceEq, Int.reduceToNat, Int.reduceAdd, Int.reduceSub, Int.reduceMul, Int.reduceNeg, reduceCtorEq, Option.bind_some, Option.map_some, List.length_cons, List.length_nil, vcM, List.getElem?_toArray, List.getElem?_cons_zero, List.getElem?_cons_succ, h5z, y0, hin', d2, d3])
        (refine W_at c6_ok ?_; refine ⟨_, rfl, ?_⟩; simp (disch := first | omega | assumption | rfl | (simp only [vcS] <;> omega) | fail) only [↓ptV_l, ↓vcA, vcB, ↓vcD, vcE, ↓reduceIte, Nat.reduceEqDiff, Nat.reduceAdd, Nat.reduceMul, Nat.reduceLeDiff, Int.reduceLE, Int.reduceLT, Int.reduceEq, Int.reduceToNat, Int.reduceAdd, Int.reduceSub, Int.reduceMul, Int.reduceNeg, reduceCtorEq, Option.bind_some, Option.map_some, List.length_cons, List.length_nil, vcM, List.getElem?_toArray, List.getElem?_cons_zero, List.getElem?_cons_succ])
        exact fin _ fun h => by rcases h.2 with h | h; exact c2 h; exact c3 h
    · have hlt2 : ¬ ((i : Nat) : Int) < (u.ins.length : Nat) := by omega
      (refine W_at c6_ok ?_; refine ⟨_, rfl, ?_⟩; simp (disch := first | omega | assumption | rfl | (simp only [vcS] <;> omega) | fail) only [↓ptV_l, ↓vcA, vcB, ↓vcD, vcE, ↓reduceIte, Nat.reduceEqDiff, Nat.reduceAdd, Nat.reduceMul, Nat.reduceLeDiff, Int.reduceLE, Int.reduceLT, Int.reduceEq, Int.reduceToNat, Int.reduceAdd, Int.reduceSub, Int.reduceMul, Int.reduceNeg, reduceCtorEq, Option.bind_some, Option.map_some, List.length_cons, List.length_nil, vcM, List.getElem?_toArray, List.getElem?_cons_zero, List.getElem?_cons_succ, h4j, u1, hlu, hlt2])
      (refine W_at c6_ok ?_; refine ⟨_, rfl, ?_⟩; simp (disch := first | omega | assumption | rfl | (simp only [vcS] <;> omega) | fail) only [↓ptV_l, ↓vcA, vcB, ↓vcD, vcE, ↓reduceIte, Nat.reduceEqDiff, Nat.reduceAdd, Nat.reduceMul, Nat.reduceLeDiff, Int.reduceLE, Int.reduceLT, Int.reduceEq, Int.reduceToNat, Int.reduceAdd, Int.reduceSub, Int.reduceMul, Int.reduceNeg, reduceCtorEq, Option.bind_some, Option.map_some, List.length_cons, List.length_nil, vcM, List.getElem?_toArray, List.getElem?_cons_zero, List.getElem?_cons_succ])
      refine W_env (next wj [] ?_) ?_
      · have e : modI u.ins n kind i t.ins[i] = t.ins[i] := by unfold modI; rw [dif_neg hiu]
        have e2 := modTo_at (us := u.ins) (n := n) (kind := kind) hil
        rw [e, ← e2, List.set_getElem_self]
        exact hP
      · intro p hp
        simp only [List.mem_cons, List.not_mem_nil, or_false] at hp
        rcases hp with rfl | rfl | rfl | rfl | rfl | rfl | rfl <;> rfl
end Go.Proofs
namespace Go.Proofs
open Go.Vc
set_option maxRecDepth 10000

theorem ListN.cat {α : Type} {R : Nat → World → Array Value → α → Prop} {T size m m2 bytes : Nat} {z : List Value} {w : World} {v v2 : Value} {l l2 : List α} {K : Value → World → Prop} (h : ListN R T size m w v l) (h2 : ListN R T size m2 w v2 l2) (hfl : ∀ c x, R m2 w c x → flat c) (hRm : ∀ w c x, R m2 w c x → R m w c x)
    (hl : l.length + l2.length ≤ 100000) (hb : (l.length + l2.length) * bytes ≤ 140737488355328) (hz : z.length = size) (hs : 0 < size) (hm : m ≤ w.heap.size)
    (hR : ∀ (S : Nat → Prop) w1 w2 c x, Keep S w1 w2 → (∀ g, S g → ∃ c, w1.heap[g]? = some (.cells c T (0, 0))) → R m w1 c x → R m w2 c x)
    (hk : ∀ v' w', ListN R T size m w' v' (l ++ l2) → Keep (blk v) w w' → (∀ g, blk v' g → blk v g ∨ w.heap.size ≤ g) → K v' w') :
    appV T size bytes z v v2 w K := by
  obtain ⟨cs, a1, a2, a3⟩ := h
  obtain ⟨ds, b1, b2, b3⟩ := h2
  obtain ⟨q, c, e, hc⟩ := b2.is
  have hr := b2.rd
  rw [e] at hr ⊢
  refine appO4 (ids2 := ds) a2 hr rfl b2.sz (fun k hk => ?_) (by omega) (by rw [a1, b1]; exact hb) hz hm hs fun v' w' k1 k2 k3 => ?_
  · obtain ⟨i, hi, rfl⟩ := List.getElem_of_mem hk
    exact hfl _ _ (b3 i hi (by omega))
  · have hSb : ∀ g, blk v g → ∃ c', w.heap[g]? = some (.cells c' T (0, 0)) := fun g hg => (a2.blk hg).2
    refine hk v' w' ⟨cs ++ ds, by simp [a1, b1], k1, fun i x y => ?_⟩ k2 k3
    by_cases hi : i < cs.length
    · rw [List.getElem_append_left hi, List.getElem_append_left (by omega)]
      exact hR _ _ _ _ _ k2 hSb (a3 i hi (by omega))
    · rw [List.length_append] at x
      rw [List.getElem_append_right (by omega), List.getElem_append_right (by omega)]
      have := hR _ _ _ _ _ k2 hSb (hRm _ _ _ (b3 (i - cs.length) (by omega) (by omega)))
      simpa only [a1] using this
structure FZ (wB wj : World) (p7 : Nat) (t : TxV) (vx ox : Value) (L : List TxI) (O : List TxO) : Prop where
  ext : Ext wB wj
  c7 : wj.heap[p7]? = some (.cells (txC t vx ox) 26 (0, 0))
  ins : ListN IP0 50 36 0 wj vx L
  outs : ListN OG 54 2 0 wj ox O
  l7 : wB.heap.size ≤ p7
section
variable {wB wj w' : World} {p7 : Nat} {t : TxV} {vx ox : Value} {L : List TxI} {O : List TxO}
theorem FZ.keep (h : FZ wB wj p7 t vx ox L O) (k : Ext wj w') : FZ wB w' p7 t vx ox L O :=
  ⟨h.ext.ext k, k.at h.c7 (fun h => h), ListN.keepT h.ins k (fun _ h => h.elim) fun _ _ h => IP0.keepT h k fun _ h => h.elim, ListN.keepT h.outs k (fun _ h => h.elim) fun _ _ h => OG.keepT h k fun _ h => h.elim, h.l7⟩
theorem FR.fz (h : FR wB wj p7 t vx ox L) : FZ wB wj p7 t vx ox L t.outs := ⟨h.ext, h.c7, ListN.imp h.ins (Nat.zero_le _) fun _ _ _ h => h, ListN.imp h.outs (Nat.zero_le _) fun _ _ _ h => h, h.l7⟩
/-- The two parts, written anew. -/
theorem FZ.put1 (h : FZ wB wj p7 t vx ox L O) {v' : Value} {L' : List TxI} (hv : ListN IP0 50 36 0 wj v' L') : wr1 wj p7 1 ∧ FZ wB (wj.setCell ⟨p7, 1, none⟩ v') p7 t v' ox L' O := by
  have hk : Keep (fun g => g = p7) wj (wj.setCell ⟨p7, 1, none⟩ v') := (Keep.refl _ wj).setCell _ fun _ => rfl
  have n5 := ne_T (T' := 5) h.c7 (by decide)
  have n27 := ne_T (T' := 27) h.c7 (by decide)
  have n50 := ne_T (T' := 50) h.c7 (by decide)
  have n54 := ne_T (T' := 54) h.c7 (by decide)
  have l7 := h.l7
  exact ⟨wr1_of h.c7 (by rw [txC_sz]; decide), h.ext.trans hk fun g hg e => by omega, by rw [heap_setCell_eq h.c7]; rfl,
    ListN.keepT hv hk (fun g hg c => by subst hg; exact n50 c) fun _ _ hR => IP0.keepT hR hk fun g hg c => by subst hg; exact ⟨n5 c, n27 c⟩,
    ListN.keepT h.outs hk (fun g hg c => by subst hg; exact n54 c) fun _ _ hR => OG.keepT hR hk fun g hg c => by subst hg; exact n5 c, h.l7⟩
theorem FZ.mk1 (hE : Ext wB wj) (h7 : wj.heap[p7]? = some (.cells (txC t vx ox) 26 (0, 0))) {v' : Value} {L' : List TxI} (hv : ListN IP0 50 36 0 wj v' L') (ho : ListN OG 54 2 0 wj ox O) (l7 : wB.heap.size ≤ p7) : wr1 wj p7 1 ∧ FZ wB (wj.setCell ⟨p7, 1, none⟩ v') p7 t v' ox L' O := by
  have hk : Keep (fun g => g = p7) wj (wj.setCell ⟨p7, 1, none⟩ v') := (Keep.refl _ wj).setCell _ fun _ => rfl
  have n5 := ne_T (T' := 5) h7 (by decide)
  have n27 := ne_T (T' := 27) h7 (by decide)
  have n50 := ne_T (T' := 50) h7 (by decide)
  have n54 := ne_T (T' := 54) h7 (by decide)
  exact ⟨wr1_of h7 (by rw [txC_sz]; decide), hE.trans hk fun g hg e => by omega, by rw [heap_setCell_eq h7]; rfl,
    ListN.keepT hv hk (fun g hg c => by subst hg; exact n50 c) fun _ _ hR => IP0.keepT hR hk fun g hg c => by subst hg; exact ⟨n5 c, n27 c⟩,
    ListN.keepT ho hk (fun g hg c => by subst hg; exact n54 c) fun _ _ hR => OG.keepT hR hk fun g hg c => by subst hg; exact n5 c, l7⟩
theorem FZ.put2 (h : FZ wB wj p7 t vx ox L O) {v' : Value} {O' : List TxO} (hv : ListN OG 54 2 0 wj v' O') : wr1 wj p7 2 ∧ FZ wB (wj.setCell ⟨p7, 2, none⟩ v') p7 t vx v' L O' := by
  have hk : Keep (fun g => g = p7) wj (wj.setCell ⟨p7, 2, none⟩ v') := (Keep.refl _ wj).setCell _ fun _ => rfl
  have n5 := ne_T (T' := 5) h.c7 (by decide)
  have n27 := ne_T (T' := 27) h.c7 (by decide)
  have n50 := ne_T (T' := 50) h.c7 (by decide)
  have n54 := ne_T (T' := 54) h.c7 (by decide)
  have l7 := h.l7
  exact ⟨wr1_of h.c7 (by rw [txC_sz]; decide), h.ext.trans hk fun g hg e => by omega, by rw [heap_setCell_eq h.c7]; rfl,
    ListN.keepT h.ins hk (fun g hg c => by subst hg; exact n50 c) fun _ _ hR => IP0.keepT hR hk fun g hg c => by subst hg; exact ⟨n5 c, n27 c⟩,
    ListN.keepT hv hk (fun g hg c => by subst hg; exact n54 c) fun _ _ hR => OG.keepT hR hk fun g hg c => by subst hg; exact n5 c, h.l7⟩
/-- When a block of inputs, or of outputs, changes that is one's own. -/
theorem FZ.step {S : Nat → Prop} {T : TypeId} (h : FZ wB wj p7 t vx ox L O) (k : Keep S wj w') (hS : ∀ g, S g → wB.heap.size ≤ g ∧ ∃ c, wj.heap[g]? = some (.cells c T (0, 0))) (hT : T = 50 ∨ T = 54) (hi : ListN IP0 50 36 0 w' vx L) (ho : ListN OG 54 2 0 w' ox O) : FZ wB w' p7 t vx ox L O :=
  ⟨h.ext.trans k fun g hg hs => by have := (hS g hs).1; omega, k.at h.c7 fun hs => by
    obtain ⟨_, c, hc⟩ := hS _ hs
    have := h.c7
    rw [hc] at this
    injection this with e
    injection e with _ e
    rcases hT with rfl | rfl <;> exact absurd e (by decide), hi, ho, h.l7⟩
theorem FZ.txR (h : FZ wB wj p7 t vx ox L O) : TxR wj vx ox { t with ins := L, outs := O } := ⟨ListN.toR h.ins fun _ _ h => by obtain ⟨sv, wv, e, h1, h2⟩ := h; exact ⟨sv, wv, e, h1.1, h2.rowR⟩, ListN.toR h.outs fun _ _ h => by obtain ⟨sv, e, h1⟩ := h; exact ⟨sv, e, h1.1⟩⟩
end
theorem IP0.flat {m : Nat} {w : World} {c : Array Value} {x : TxI} (h : IP0 m w c x) : flat c := by
  obtain ⟨sv, wv, rfl, h1, h2⟩ := h
  exact iC_flat h1.1.one h2.rowR.one
theorem OG.flat {m : Nat} {w : World} {c : Array Value} {y : TxO} (h : OG m w c y) : flat c := by
  obtain ⟨sv, rfl, h1⟩ := h
  exact oC_flat h1.1.one
theorem IP0.kT {m : Nat} (S : Nat → Prop) (w1 w2 : World) (c : Array Value) (x : TxI) (k : Keep S w1 w2) (hS : ∀ g, S g → ∃ c, w1.heap[g]? = some (.cells c 50 (0, 0))) (h : IP0 m w1 c x) : IP0 m w2 c x :=
  IP0.keepT h k fun g hs c => by obtain ⟨c', hc⟩ := hS g hs; rw [hc]; exact ⟨fun e => (by cases e), fun e => (by cases e)⟩
theorem OG.kT {m : Nat} (S : Nat → Prop) (w1 w2 : World) (c : Array Value) (y : TxO) (k : Keep S w1 w2) (hS : ∀ g, S g → ∃ c, w1.heap[g]? = some (.cells c 54 (0, 0))) (h : OG m w1 c y) : OG m w2 c y :=
  OG.keepT h k fun g hs c => by obtain ⟨c', hc⟩ := hS g hs; rw [hc]; exact fun e => (by cases e)
theorem xF_mem {t u : TxV} {n : Nat} {kind : Int} {x : TxI} (h : x ∈ (xF t u n kind).ins) : (∃ k, ∃ hk : k < t.ins.length, x = t.ins[k] ∨ ∃ hk' : k < u.ins.length, x = modY n kind k t.ins[k] u.ins[k]) ∨ x ∈ u.ins := by
  have h : x ∈ t.ins.mapIdx (modI u.ins n kind) ++ (if 128 ≤ kind then u.ins else []) := h
  rcases List.mem_append.1 h with h | h
  · obtain ⟨k, hk, rfl⟩ := List.mem_mapIdx.1 h
    refine .inl ⟨k, hk, ?_⟩
    unfold modI
    split
    · rename_i h'; exact .inr ⟨h', rfl⟩
    · exact .inl rfl
  · split at h
    · exact .inr h
    · cases h
theorem xF_memO {t u : TxV} {n : Nat} {kind : Int} {y : TxO} (h : y ∈ (xF t u n kind).outs) : y ∈ t.outs ∨ y ∈ u.outs := by
  have h : y ∈ (if kind % 32 = 2 then u.outs else if kind % 32 = 3 ∧ n < t.outs.length then t.outs.take (n + 1) ++ u.outs else t.outs) := h
  split at h
  · exact .inr h
  · split at h
    · rcases List.mem_append.1 h with h | h
      · exact .inl (List.mem_of_mem_take h)
      · exact .inr h
    · exact .inl h
theorem xF_lm {t u : TxV} {n : Nat} {kind : Int} (hok : t.Ok) (hsz : t.Sz) (hou : u.Ok) (hsu : u.Sz) (hL : t.Lim 5 300) (hLu : u.Lim 5 300) : (xF t u n kind).Lm := by
  have a1 := hL.ins
  have a2 := hL.outs
  have a3 := hLu.ins
  have a4 := hLu.outs
  have li : (xF t u n kind).ins.length ≤ 10 := by
    show (t.ins.mapIdx (modI u.ins n kind) ++ (if 128 ≤ kind then u.ins else [])).length ≤ 10
    rw [List.length_append, List.length_mapIdx]
    split
    · omega
    · simp; omega
  have lo : (xF t u n kind).outs.length ≤ 10 := by
    show (if kind % 32 = 2 then u.outs else if kind % 32 = 3 ∧ n < t.outs.length then t.outs.take (n + 1) ++ u.outs else t.outs).length ≤ 10
    split
    · omega
    · split
      · rw [List.length_append, List.length_take]; omega
      · omega
  have hi : ∀ x ∈ (xF t u n kind).ins, x.Ok ∧ x.Sz ∧ x.script.length ≤ 300 := by
    intro x hx
    rcases xF_mem hx with ⟨k, hk, rfl | ⟨hk', rfl⟩⟩ | hx
    · have hm := List.getElem_mem hk
      exact ⟨hok.ins _ hm, hsz.inp _ hm, hL.inp _ hm⟩
    · have hm := List.getElem_mem hk
      have hm' := List.getElem_mem hk'
      have q1 := hok.ins _ hm
      have q2 := hou.ins _ hm'
      have q3 := hsu.inp _ hm'
      generalize t.ins[k] = x at q1
      have q4 := hLu.inp _ hm'
      generalize u.ins[k] = y at q2 q3 q4
      refine ⟨⟨?_, ?_, ?_, q2.script, ?_, q2.wit⟩, ⟨q3.script, q3.wit, q3.item⟩, q4⟩
      · simp only [modY]; split
        · exact q2.len
        · exact q1.len
      · simp only [modY]; split
        · exact q2.prev
        · exact q1.prev
      · simp only [modY]; split
        · exact q2.idx
        · exact q1.idx
      · simp only [modY]; split
        · exact q2.seq
        · exact q1.seq
    · exact ⟨hou.ins _ hx, hsu.inp _ hx, hLu.inp _ hx⟩
  have ho : ∀ y ∈ (xF t u n kind).outs, y.Ok ∧ y.script.length ≤ 300 := by
    intro y hy
    rcases xF_memO hy with hy | hy
    · exact ⟨hok.outs _ hy, hL.out _ hy⟩
    · exact ⟨hou.outs _ hy, hLu.out _ hy⟩
  exact ⟨⟨hok.ver, fun x hx => (hi x hx).1, fun y hy => (ho y hy).1, hok.lock⟩, ⟨by omega, by omega, fun x hx => (hi x hx).2.1, fun y hy => by have := (ho y hy).2; omega⟩, by omega, by omega, fun x hx => by have := (hi x hx).2.2; omega, fun y hy => by have := (ho y hy).2; omega⟩
end Go.Proofs
namespace Go.Proofs
open Go.Vc
set_option maxRecDepth 10000

set_option maxHeartbeats 6400000 in
theorem free_end (w wB : World) (p3 p4 p5 p7 n mt mu : Nat) (t u : TxV) (it ot iu ou sx : Value) (bs : List Int) (kind value : Int) (hE0 : Ext w wB) (hk : 0 ≤ kind ∧ kind ≤ 255) (h3 : wB.heap[p3]? = some (.cells (txC t it ot) 26 (0, 0))) (h4 : wB.heap[p4]? = some (.cells (txC u iu ou) 26 (0, 0))) (h5 : wB.heap[p5]? = some (.cells (wyC n kind sx value) 29 (0, 0)))
    (hT : TxT mt wB it ot t) (hU : TxT mu wB iu ou u) (hok : t.Ok) (hsz : t.Sz) (hou : u.Ok) (hsu : u.Sz) (hL : t.Lim 5 300) (hLu : u.Lim 5 300) (hn : n < t.ins.length) (hx : Rd wB sx bs) (hb : byt bs)
    (wj : World) (vx ox : Value) (tl : Env) (hP : FR wB wj p7 t vx ox (t.ins.mapIdx (modI u.ins n kind))) :
    W Try.prog (Ret fun u w' => u = .bool true ∧ Ext w w') 6 12 ((3, .pointer (some ⟨p3, 0, none⟩)) :: (4, .pointer (some ⟨p4, 0, none⟩)) :: (5, .pointer (some ⟨p5, 0, none⟩)) :: (7, .pointer (some ⟨p7, 0, none⟩)) :: (8, .int .u8 (kind % 32)) :: tl) wj := by
  have y0 : (wyC n kind sx value)[0]? = some (.int .i64 (n : Nat)) := rfl
  have y1 : (wyC n kind sx value)[1]? = some (.int .u8 kind) := rfl
  have y2 : (wyC n kind sx value)[2]? = some sx := rfl
  have y3 : (wyC n kind sx value)[3]? = some (.int .i64 value) := rfl
  have u1 : (txC u iu ou)[1]? = some iu := rfl
  have u2 : (txC u iu ou)[2]? = some ou := rfl
  have a1 := hL.ins
  have a2 := hL.outs
  have a3 := hLu.ins
  have a4 := hLu.outs
  -- the digests
  have fin : ∀ wz vX oX tl, FZ wB wz p7 t vX oX (xF t u n kind).ins (xF t u n kind).outs → W Try.prog (Ret fun u w' => u = .bool true ∧ Ext w w') 6 3 ((3, .pointer (some ⟨p3, 0, none⟩)) :: (5, .pointer (some ⟨p5, 0, none⟩)) :: (7, .pointer (some ⟨p7, 0, none⟩)) :: tl) wz := by
    intro wz vX oX tl hz
    have c7 : wz.heap[p7]? = some (.cells (txC (xF t u n kind) vX oX) 26 (0, 0)) := hz.c7
    have hX : TxR wz vX oX (xF t u n kind) := hz.txR
    have hXL := xF_lm (n := n) (kind := kind) hok hsz hou hsu hL hLu
    have hTL : t.Lm := ⟨hok, hsz, by omega, by omega, fun x hx => by have := hL.inp x hx; omega, fun y hy => by have := hL.out y hy; omega⟩
    have h5z := hz.ext.at h5 (fun h => h)
    have h3z := hz.ext.at h3 (fun h => h)
    have hTz := hT.r.ext hz.ext
    have hxz := hx.ext hz.ext
    have r4 : ∀ (t : TxV) (iv ov : Value), rdO (some (.cells (txC t iv ov) 26 (0, 0))) 0 4 = some (txC t iv ov) := fun t iv ov => rdO_all _ _ _ _ rfl
    have hE0z := hE0.ext hz.ext
    (refine W_at c6_ok ?_; refine ⟨_, rfl, ?_⟩; simp (disch := first | omega | assumption | rfl | (simp only [vcS] <;> omega) | fail) only [↓ptV_l, ↓vcA, vcB, ↓vcD, vcE, ↓reduceIte, Nat.reduceEqDiff, Nat.reduceAdd, Nat.reduceMul, Nat.reduceLeDiff, Int.reduceLE, Int.reduceLT, Int.reduceEq, Int.reduceToNat, Int.reduceAdd, Int.reduceSub, Int.reduceMul, Int.reduceNeg, reduceCtorEq, Option.bind_some, Option.map_some, List.length_cons, List.length_nil, vcM, List.getElem?_toArray, List.getElem?_cons_zero, List.getElem?_cons_succ, h5z, y2])
    refine callV_ret (short12_ok wz sx bs hxz) ?_
    rintro sx' _ ⟨hsx, rfl⟩
    rename_i wq
    have hsq := hsx _ hxz
    have hbq : byt (bs.take 300) := byt_take hb _
    have hlq : (bs.take 300).length ≤ 300 := by rw [List.length_take]; omega
    first | (simp (disch := first | omega | assumption | rfl | (simp only [vcS] <;> omega) | fail) only [↓ptV_l, ↓vcA, vcB, ↓vcD, vcE, ↓reduceIte, Nat.reduceEqDiff, Nat.reduceAdd, Nat.reduceMul, Nat.reduceLeDiff, Int.reduceLE, Int.reduceLT, Int.reduceEq, Int.reduceToNat, Int.reduceAdd, Int.reduceSub, Int.reduceMul, Int.reduceNeg, reduceCtorEq, Option.bind_some, Option.map_some, List.length_cons, List.length_nil, vcM, List.getElem?_toArray, List.getElem?_cons_zero, List.getElem?_cons_succ]) | skip
    generalize bs.take 300 = bq at hsq hbq hlq
    have hEd : Ext wq wq.drew := (Keep.refl _ wq).drew
    have c7d := hEd.at c7 (fun h => h)
    have h5d := hEd.at h5z (fun h => h)
    have h3d := hEd.at h3z (fun h => h)
    have hXd := hX.ext hEd
    have hTd := hTz.ext hEd
    have hsd := hsq.ext hEd
    have hE0d := hE0z.ext hEd
    have q1 : legG (xF t u n kind) (n : Nat) bq kind = legG t (n : Nat) bq kind := leg_free hn bq
    have q2 : witF (xF t u n kind) (n : Nat) bq value kind = witF t (n : Nat) bq value kind := wit_free hn bq value
    have e1 := eqA_self (legG_len t (n : Nat) bq kind)
    have e2 := eqA_self (witF_len t (n : Nat) bq value kind)
    (refine W_at c6_ok ?_; refine ⟨_, rfl, ?_⟩; simp (disch := first | omega | assumption | rfl | (simp only [vcS] <;> omega) | fail) only [↓vcL1, ptS2_eq, ↓vcA, vcB, ↓vcD, vcE, ↓reduceIte, Nat.reduceEqDiff, Nat.reduceAdd, Nat.reduceMul, Nat.reduceLeDiff, Int.reduceLE, Int.reduceLT, Int.reduceEq, Int.reduceToNat, Int.reduceAdd, Int.reduceSub, Int.reduceMul, Int.reduceNeg, reduceCtorEq, Option.bind_some, Option.map_some, List.length_cons, List.length_nil, vcM, List.getElem?_toArray, List.getElem?_cons_zero, List.getElem?_cons_succ, c7, h5z, h3z, c7d, h5d, h3d, r4, y0, y1, y2, y3])
    refine callV_ret (legacy2_ok wq.drew vX oX (xF t u n kind) hXd hXL (n : Nat) sx' bq hsd hbq (by omega) kind hk (by omega)) ?_
    rintro _ wA ⟨rfl, hEA⟩
    rw [q1]
    have c7A := hEA.at c7d (fun h => h)
    have h5A := hEA.at h5d (fun h => h)
    have h3A := hEA.at h3d (fun h => h)
    refine ⟨⟨by rw [h5A]; exact y1, by rw [h5A]; exact y0, by rw [h3A, r4]; rfl⟩, ?_⟩
    simp (disch := first | omega | assumption | rfl | (simp only [vcS] <;> omega) | fail) only [↓vcL2, ptS1_eq, ↓vcA, vcB, ↓vcD, vcE, ↓reduceIte, Nat.reduceEqDiff, Nat.reduceAdd, Nat.reduceMul, Nat.reduceLeDiff, Int.reduceLE, Int.reduceLT, Int.reduceEq, Int.reduceToNat, Int.reduceAdd, Int.reduceSub, Int.reduceMul, Int.reduceNeg, reduceCtorEq, Option.bind_some, Option.map_some, List.length_cons, List.length_nil, vcM, List.getElem?_toArray, List.getElem?_cons_zero, List.getElem?_cons_succ, c7A, h5A, h3A, r4, y0, y1, y3]
    refine callV_ret (legacy2_ok wA it ot t (hTd.ext hEA) hTL (n : Nat) sx' bq (hsd.ext hEA) hbq (by omega) kind hk (by omega)) ?_
    rintro _ wB' ⟨rfl, hEB⟩
    have hEB' := hEA.ext hEB
    have c7B := hEB'.at c7d (fun h => h)
    have h5B := hEB'.at h5d (fun h => h)
    have h3B := hEB'.at h3d (fun h => h)
    simp (disch := first | omega | assumption | rfl | (simp only [vcS] <;> omega) | fail) only [↓vcL1, ptS2_eq, ↓vcA, vcB, ↓vcD, vcE, ↓reduceIte, Nat.reduceEqDiff, Nat.reduceAdd, Nat.reduceMul, Nat.reduceLeDiff, Int.reduceLE, Int.reduceLT, Int.reduceEq, Int.reduceToNat, Int.reduceAdd, Int.reduceSub, Int.reduceMul, Int.reduceNeg, reduceCtorEq, Option.bind_some, Option.map_some, List.length_cons, List.length_nil, vcM, List.getElem?_toArray, List.getElem?_cons_zero, List.getElem?_cons_succ, e1, c7B, h5B, h3B, r4, y0, y1, y3]
    refine callV_ret (witness2_ok wB' vX oX (xF t u n kind) (hXd.ext hEB') hXL (n : Nat) sx' bq (hsd.ext hEB') hbq (by omega) value kind hk) ?_
    rintro _ wC ⟨rfl, hEC⟩
    rw [q2]
    have hEC' := hEB'.ext hEC
    have c7C := hEC'.at c7d (fun h => h)
    have h5C := hEC'.at h5d (fun h => h)
    have h3C := hEC'.at h3d (fun h => h)
    refine ⟨⟨by rw [h5C]; exact y1, by rw [h5C]; exact y3, by rw [h5C]; exact y0, by rw [h3C, r4]; rfl⟩, ?_⟩
    simp (disch := first | omega | assumption | rfl | (simp only [vcS] <;> omega) | fail) only [↓vcL2, ptS1_eq, ↓vcA, vcB, ↓vcD, vcE, ↓reduceIte, Nat.reduceEqDiff, Nat.reduceAdd, Nat.reduceMul, Nat.reduceLeDiff, Int.reduceLE, Int.reduceLT, Int.reduceEq, Int.reduceToNat, Int.reduceAdd, Int.reduceSub, Int.reduceMul, Int.reduceNeg, reduceCtorEq, Option.bind_some, Option.map_some, List.length_cons, List.length_nil, vcM, List.getElem?_toArray, List.getElem?_cons_zero, List.getElem?_cons_succ, c7C, h5C, h3C, r4, y0, y1, y3]
    refine callV_ret (witness2_ok wC it ot t (hTd.ext hEC') hTL (n : Nat) sx' bq (hsd.ext hEC') hbq (by omega) value kind hk) ?_
    rintro _ wD ⟨rfl, hED⟩
    first | (simp (disch := first | omega | assumption | rfl | (simp only [vcS] <;> omega) | fail) only [↓vcL1, ptS2_eq, ↓vcA, vcB, ↓vcD, vcE, ↓reduceIte, Nat.reduceEqDiff, Nat.reduceAdd, Nat.reduceMul, Nat.reduceLeDiff, Int.reduceLE, Int.reduceLT, Int.reduceEq, Int.reduceToNat, Int.reduceAdd, Int.reduceSub, Int.reduceMul, Int.reduceNeg, reduceCtorEq, Option.bind_some, Option.map_some, List.length_cons, List.length_nil, vcM, List.getElem?_toArray, List.getElem?_cons_zero, List.getElem?_cons_succ, e2]) | skip
    (refine W_at c6_ok ?_; refine ⟨_, rfl, ?_⟩; simp (disch := first | omega | assumption | rfl | (simp only [vcS] <;> omega) | fail) only [↓ptV_l, ↓vcA, vcB, ↓vcD, vcE, ↓reduceIte, Nat.reduceEqDiff, Nat.reduceAdd, Nat.reduceMul, Nat.reduceLeDiff, Int.reduceLE, Int.reduceLT, Int.reduceEq, Int.reduceToNat, Int.reduceAdd, Int.reduceSub, Int.reduceMul, Int.reduceNeg, reduceCtorEq, Option.bind_some, Option.map_some, List.length_cons, List.length_nil, vcM, List.getElem?_toArray, List.getElem?_cons_zero, List.getElem?_cons_succ, Ret_returned])
    exact hE0d.ext (hEC'.ext hED)
  have insE : (xF t u n kind).ins = t.ins.mapIdx (modI u.ins n kind) ++ if 128 ≤ kind then u.ins else [] := rfl
  have outE : (xF t u n kind).outs = if kind % 32 = 2 then u.outs else if kind % 32 = 3 ∧ n < t.outs.length then t.outs.take (n + 1) ++ u.outs else t.outs := rfl
  -- one output alone
  have st6 : ∀ wz vX oX tl, ¬ kind % 32 = 2 → FZ wB wz p7 t vX oX (xF t u n kind).ins t.outs → W Try.prog (Ret fun u w' => u = .bool true ∧ Ext w w') 6 6 ((3, .pointer (some ⟨p3, 0, none⟩)) :: (4, .pointer (some ⟨p4, 0, none⟩)) :: (5, .pointer (some ⟨p5, 0, none⟩)) :: (7, .pointer (some ⟨p7, 0, none⟩)) :: (8, .int .u8 (kind % 32)) :: tl) wz := by
    intro wz vX oX tl c2 hz
    have c7 := hz.c7
    have h5z := hz.ext.at h5 (fun h => h)
    have h4z := hz.ext.at h4 (fun h => h)
    have x2 : (txC t vX oX)[2]? = some oX := rfl
    have hlo := ListN.len hz.outs
    have E3 : ∀ (wz : World) (l : Env), ∀ p ∈ ([(3, .pointer (some ⟨p3, 0, none⟩)), (5, .pointer (some ⟨p5, 0, none⟩)), (7, .pointer (some ⟨p7, 0, none⟩))] : Env), Vc.look ((3, .pointer (some ⟨p3, 0, none⟩)) :: (4, .pointer (some ⟨p4, 0, none⟩)) :: (5, .pointer (some ⟨p5, 0, none⟩)) :: (7, .pointer (some ⟨p7, 0, none⟩)) :: l) p.1 = some p.2 := by
      intro wz l p hp
      simp only [List.mem_cons, List.not_mem_nil, or_false] at hp
      rcases hp with rfl | rfl | rfl <;> rfl
    by_cases c3 : kind % 32 = 3
    · have d3 : decide (kind % 32 = 3) = true := decide_eq_true c3
      by_cases hl : n < t.outs.length
      · have hl' : ((n : Nat) : Int) < (t.outs.length : Nat) := by omega
        (refine W_at c6_ok ?_; refine ⟨_, rfl, ?_⟩; simp (disch := first | omega | assumption | rfl | (simp only [vcS] <;> omega) | fail) only [↓ptV_l, ↓vcA, vcB, ↓vcD, vcE, ↓reduceIte, Nat.reduceEqDiff, Nat.reduceAdd, Nat.reduceMul, Nat.reduceLeDiff, Int.reduceLE, Int.reduceLT, Int.reduceEq, Int.reduceToNat, Int.reduceAdd, Int.reduceSub, Int.reduceMul, Int.reduceNeg, reduceCtorEq, Option.bind_some, Option.map_some, List.length_cons, List.length_nil, vcM, List.getElem?_toArray, List.getElem?_cons_zero, List.getElem?_cons_succ, d3, c7, h5z, x2, y0, hlo, hl'])
        (refine W_at c6_ok ?_; refine ⟨_, rfl, ?_⟩; simp (disch := first | omega | assumption | rfl | (simp only [vcS] <;> omega) | fail) only [↓ptV_l, ↓vcA, vcB, ↓vcD, vcE, ↓reduceIte, Nat.reduceEqDiff, Nat.reduceAdd, Nat.reduceMul, Nat.reduceLeDiff, Int.reduceLE, Int.reduceLT, Int.reduceEq, Int.reduceToNat, Int.reduceAdd, Int.reduceSub, Int.reduceMul, Int.reduceNeg, reduceCtorEq, Option.bind_some, Option.map_some, List.length_cons, List.length_nil, vcM, List.getElem?_toArray, List.getElem?_cons_zero, List.getElem?_cons_succ])
        obtain ⟨q, c, rfl, hc⟩ := ListN.is hz.outs
        have wi : IntKind.i64.wrap ((n : Int) + 1) = ((n + 1 : Nat) : Int) := wrap_i64 (by omega) (by omega)
        have k1 : (0 : Int) ≤ ((n + 1 : Nat) : Int) ∧ ((n + 1 : Nat) : Int) ≤ (c : Nat) := by omega
        have hEd : Ext wz wz.drew := (Keep.refl _ wz).drew
        have hNE : Ext wz.drew (wz.drew.alloc (.cells [].toArray 54)) := (Keep.refl _ wz.drew).alloc _
        have hzn := (hz.keep hEd).keep hNE
        have c7n := hzn.c7
        have h5n := hzn.ext.at h5 (fun h => h)
        have h4n := hzn.ext.at h4 (fun h => h)
        (refine W_at c6_ok ?_; refine ⟨_, rfl, ?_⟩; simp (disch := first | omega | assumption | rfl | (simp only [vcS] <;> omega) | fail) only [↓vcL1, ptS2_eq, ↓vcA, vcB, ↓vcD, vcE, ↓reduceIte, Nat.reduceEqDiff, Nat.reduceAdd, Nat.reduceMul, Nat.reduceLeDiff, Int.reduceLE, Int.reduceLT, Int.reduceEq, Int.reduceToNat, Int.reduceAdd, Int.reduceSub, Int.reduceMul, Int.reduceNeg, reduceCtorEq, Option.bind_some, Option.map_some, List.length_cons, List.length_nil, vcM, List.getElem?_toArray, List.getElem?_cons_zero, List.getElem?_cons_succ, c7, h5z, h4z, x2, y0, u2, wi, k1, Int.toNat_natCast, advA_0, Nat.sub_zero, c7n, h5n, h4n])
        have hO0 : ListN OG 54 2 wz.heap.size (wz.drew.alloc (.cells [].toArray 54)) (.slice (some ⟨wz.heap.size, 0, none⟩) 0 0) [] :=
          ⟨[], rfl, ⟨fun _ h => (by cases h), .inr ⟨_, 0, 0, _, rfl, Nat.le_refl _, heap_new wz.drew _ _ rfl, Nat.le_refl _, Nat.zero_le _, by simp, by simp⟩⟩, fun i h => by simp at h⟩
        have hszn := hNE.size
        have hszd : wz.drew.heap.size = wz.heap.size := rfl
        refine ListN.cat hO0 (ListN.take hzn.outs (k := n + 1) (by omega)) (fun c x h => OG.flat h) (fun w c x h => h) (by simp; omega) (by simp; omega) rfl (by decide) (by omega) (fun S w1 w2 c x k hS h => OG.kT S w1 w2 c x k hS h) fun v1 w1 k1 k2 k3 => ?_
        have hE1 : Ext wz w1 := (hEd.ext hNE).trans k2 fun g hg hs => by
          have : wz.heap.size = g := Option.some.inj hs
          omega
        have hz1 := hz.keep hE1
        have h41 := hz1.ext.at h4 (fun h => h)
        refine ⟨by rw [h41]; exact u2, ?_⟩
        simp (disch := first | omega | assumption | rfl | (simp only [vcS] <;> omega) | fail) only [↓vcL2, ptS1_eq, ↓vcA, vcB, ↓vcD, vcE, ↓reduceIte, Nat.reduceEqDiff, Nat.reduceAdd, Nat.reduceMul, Nat.reduceLeDiff, Int.reduceLE, Int.reduceLT, Int.reduceEq, Int.reduceToNat, Int.reduceAdd, Int.reduceSub, Int.reduceMul, Int.reduceNeg, reduceCtorEq, Option.bind_some, Option.map_some, List.length_cons, List.length_nil, vcM, List.getElem?_toArray, List.getElem?_cons_zero, List.getElem?_cons_succ]
        have hU1 := hU.ext hz1.ext
        have hs1 := hE1.size
        rw [List.nil_append] at k1
        refine ListN.cat k1 hU1.outs (fun c x h => OG.flat h) (fun w c x h => h) (by rw [List.length_take]; omega) (by rw [List.length_take]; omega) rfl (by decide) (by omega) (fun S w1 w2 c x k hS h => OG.kT S w1 w2 c x k hS h) fun v2 w2 j1 j2 j3 => ?_
        have hE2 : Ext wz w2 := hE1.trans j2 fun g hg hs => by
          rcases k3 g hs with h | h
          · have : wz.heap.size = g := Option.some.inj h
            omega
          · omega
        have hz2 := hz.keep hE2
        obtain ⟨hw, hz3⟩ := hz2.put2 (ListN.imp j1 (Nat.zero_le _) fun _ _ _ h => h)
        have v1o := ListN.one j1
        first | (simp (disch := first | omega | assumption | rfl | (simp only [vcS] <;> omega) | fail) only [↓vcL1, ptS2_eq, ↓vcA, vcB, ↓vcD, vcE, ↓reduceIte, Nat.reduceEqDiff, Nat.reduceAdd, Nat.reduceMul, Nat.reduceLeDiff, Int.reduceLE, Int.reduceLT, Int.reduceEq, Int.reduceToNat, Int.reduceAdd, Int.reduceSub, Int.reduceMul, Int.reduceNeg, reduceCtorEq, Option.bind_some, Option.map_some, List.length_cons, List.length_nil, vcM, List.getElem?_toArray, List.getElem?_cons_zero, List.getElem?_cons_succ]) | skip
        refine ⟨v1o, hw, ?_⟩
        refine fin _ vX v2 [] ?_
        rw [outE, if_neg c2, if_pos ⟨c3, hl⟩]
        exact hz3
      · have hl' : ¬ ((n : Nat) : Int) < (t.outs.length : Nat) := by omega
        (refine W_at c6_ok ?_; refine ⟨_, rfl, ?_⟩; simp (disch := first | omega | assumption | rfl | (simp only [vcS] <;> omega) | fail) only [↓ptV_l, ↓vcA, vcB, ↓vcD, vcE, ↓reduceIte, Nat.reduceEqDiff, Nat.reduceAdd, Nat.reduceMul, Nat.reduceLeDiff, Int.reduceLE, Int.reduceLT, Int.reduceEq, Int.reduceToNat, Int.reduceAdd, Int.reduceSub, Int.reduceMul, Int.reduceNeg, reduceCtorEq, Option.bind_some, Option.map_some, List.length_cons, List.length_nil, vcM, List.getElem?_toArray, List.getElem?_cons_zero, List.getElem?_cons_succ, d3, c7, h5z, x2, y0, hlo, hl'])
        (refine W_at c6_ok ?_; refine ⟨_, rfl, ?_⟩; simp (disch := first | omega | assumption | rfl | (simp only [vcS] <;> omega) | fail) only [↓ptV_l, ↓vcA, vcB, ↓vcD, vcE, ↓reduceIte, Nat.reduceEqDiff, Nat.reduceAdd, Nat.reduceMul, Nat.reduceLeDiff, Int.reduceLE, Int.reduceLT, Int.reduceEq, Int.reduceToNat, Int.reduceAdd, Int.reduceSub, Int.reduceMul, Int.reduceNeg, reduceCtorEq, Option.bind_some, Option.map_some, List.length_cons, List.length_nil, vcM, List.getElem?_toArray, List.getElem?_cons_zero, List.getElem?_cons_succ])
        exact W_env (fin wz vX oX [] (by rw [outE, if_neg c2, if_neg fun h => hl h.2]; exact hz)) (E3 wz _)
    · have d3 : decide (kind % 32 = 3) = false := decide_eq_false c3
      (refine W_at c6_ok ?_; refine ⟨_, rfl, ?_⟩; simp (disch := first | omega | assumption | rfl | (simp only [vcS] <;> omega) | fail) only [↓ptV_l, ↓vcA, vcB, ↓vcD, vcE, ↓reduceIte, Nat.reduceEqDiff, Nat.reduceAdd, Nat.reduceMul, Nat.reduceLeDiff, Int.reduceLE, Int.reduceLT, Int.reduceEq, Int.reduceToNat, Int.reduceAdd, Int.reduceSub, Int.reduceMul, Int.reduceNeg, reduceCtorEq, Option.bind_some, Option.map_some, List.length_cons, List.length_nil, vcM, List.getElem?_toArray, List.getElem?_cons_zero, List.getElem?_cons_succ, d3])
      (refine W_at c6_ok ?_; refine ⟨_, rfl, ?_⟩; simp (disch := first | omega | assumption | rfl | (simp only [vcS] <;> omega) | fail) only [↓ptV_l, ↓vcA, vcB, ↓vcD, vcE, ↓reduceIte, Nat.reduceEqDiff, Nat.reduceAdd, Nat.reduceMul, Nat.reduceLeDiff, Int.reduceLE, Int.reduceLT, Int.reduceEq, Int.reduceToNat, Int.reduceAdd, Int.reduceSub, Int.reduceMul, Int.reduceNeg, reduceCtorEq, Option.bind_some, Option.map_some, List.length_cons, List.length_nil, vcM, List.getElem?_toArray, List.getElem?_cons_zero, List.getElem?_cons_succ])
      exact W_env (fin wz vX oX [] (by rw [outE, if_neg c2, if_neg fun h => c3 h.1]; exact hz)) (E3 wz _)
  -- none
  have st9 : ∀ wz vX tl, FZ wB wz p7 t vX ox (xF t u n kind).ins t.outs → W Try.prog (Ret fun u w' => u = .bool true ∧ Ext w w') 6 9 ((3, .pointer (some ⟨p3, 0, none⟩)) :: (4, .pointer (some ⟨p4, 0, none⟩)) :: (5, .pointer (some ⟨p5, 0, none⟩)) :: (7, .pointer (some ⟨p7, 0, none⟩)) :: (8, .int .u8 (kind % 32)) :: tl) wz := by
    intro wz vX tl hz
    by_cases c2 : kind % 32 = 2
    · have d2 : decide (kind % 32 = 2) = true := decide_eq_true c2
      have h4z := hz.ext.at h4 (fun h => h)
      have c7 := hz.c7
      have hUz := hU.ext hz.ext
      obtain ⟨hw, hz2⟩ := hz.put2 (ListN.imp hUz.outs (Nat.zero_le _) fun _ _ _ h => h)
      have ho1 := ListN.one hUz.outs
      (refine W_at c6_ok ?_; refine ⟨_, rfl, ?_⟩; simp (disch := first | omega | assumption | rfl | (simp only [vcS] <;> omega) | fail) only [↓ptV_l, ↓vcA, vcB, ↓vcD, vcE, ↓reduceIte, Nat.reduceEqDiff, Nat.reduceAdd, Nat.reduceMul, Nat.reduceLeDiff, Int.reduceLE, Int.reduceLT, Int.reduceEq, Int.reduceToNat, Int.reduceAdd, Int.reduceSub, Int.reduceMul, Int.reduceNeg, reduceCtorEq, Option.bind_some, Option.map_some, List.length_cons, List.length_nil, vcM, List.getElem?_toArray, List.getElem?_cons_zero, List.getElem?_cons_succ, d2])
      (refine W_at c6_ok ?_; refine ⟨_, rfl, ?_⟩; simp (disch := first | omega | assumption | rfl | (simp only [vcS] <;> omega) | fail) only [↓ptV_l, ↓vcA, vcB, ↓vcD, vcE, ↓reduceIte, Nat.reduceEqDiff, Nat.reduceAdd, Nat.reduceMul, Nat.reduceLeDiff, Int.reduceLE, Int.reduceLT, Int.reduceEq, Int.reduceToNat, Int.reduceAdd, Int.reduceSub, Int.reduceMul, Int.reduceNeg, reduceCtorEq, Option.bind_some, Option.map_some, List.length_cons, List.length_nil, vcM, List.getElem?_toArray, List.getElem?_cons_zero, List.getElem?_cons_succ])
      (refine W_at c6_ok ?_; refine ⟨_, rfl, ?_⟩; simp (disch := first | omega | assumption | rfl | (simp only [vcS] <;> omega) | fail) only [↓ptV_l, ↓vcA, vcB, ↓vcD, vcE, ↓reduceIte, Nat.reduceEqDiff, Nat.reduceAdd, Nat.reduceMul, Nat.reduceLeDiff, Int.reduceLE, Int.reduceLT, Int.reduceEq, Int.reduceToNat, Int.reduceAdd, Int.reduceSub, Int.reduceMul, Int.reduceNeg, reduceCtorEq, Option.bind_some, Option.map_some, List.length_cons, List.length_nil, vcM, List.getElem?_toArray, List.getElem?_cons_zero, List.getElem?_cons_succ, h4z, u2, c7, ho1])
      refine ⟨hw, ?_⟩
      generalize World.setCell _ _ _ = wy at hz2 ⊢
      have c3 : ¬ kind % 32 = 3 := by omega
      have d3 : decide (kind % 32 = 3) = false := decide_eq_false c3
      (refine W_at c6_ok ?_; refine ⟨_, rfl, ?_⟩; simp (disch := first | omega | assumption | rfl | (simp only [vcS] <;> omega) | fail) only [↓ptV_l, ↓vcA, vcB, ↓vcD, vcE, ↓reduceIte, Nat.reduceEqDiff, Nat.reduceAdd, Nat.reduceMul, Nat.reduceLeDiff, Int.reduceLE, Int.reduceLT, Int.reduceEq, Int.reduceToNat, Int.reduceAdd, Int.reduceSub, Int.reduceMul, Int.reduceNeg, reduceCtorEq, Option.bind_some, Option.map_some, List.length_cons, List.length_nil, vcM, List.getElem?_toArray, List.getElem?_cons_zero, List.getElem?_cons_succ, d3])
      (refine W_at c6_ok ?_; refine ⟨_, rfl, ?_⟩; simp (disch := first | omega | assumption | rfl | (simp only [vcS] <;> omega) | fail) only [↓ptV_l, ↓vcA, vcB, ↓vcD, vcE, ↓reduceIte, Nat.reduceEqDiff, Nat.reduceAdd, Nat.reduceMul, Nat.reduceLeDiff, Int.reduceLE, Int.reduceLT, Int.reduceEq, Int.reduceToNat, Int.reduceAdd, Int.reduceSub, Int.reduceMul, Int.reduceNeg, reduceCtorEq, Option.bind_some, Option.map_some, List.length_cons, List.length_nil, vcM, List.getElem?_toArray, List.getElem?_cons_zero, List.getElem?_cons_succ])
      refine W_env (fin wy vX ou [] (by rw [outE, if_pos c2]; exact hz2)) ?_
      intro p hp
      simp only [List.mem_cons, List.not_mem_nil, or_false] at hp
      rcases hp with rfl | rfl | rfl <;> rfl
    · have d2 : decide (kind % 32 = 2) = false := decide_eq_false c2
      (refine W_at c6_ok ?_; refine ⟨_, rfl, ?_⟩; simp (disch := first | omega | assumption | rfl | (simp only [vcS] <;> omega) | fail) only [↓ptV_l, ↓vcA, vcB, ↓vcD, vcE, ↓reduceIte, Nat.reduceEqDiff, Nat.reduceAdd, Nat.reduceMul, Nat.reduceLeDiff, Int.reduceLE, Int.reduceLT, Int.reduceEq, Int.reduceToNat, Int.reduceAdd, Int.reduceSub, Int.reduceMul, Int.reduceNeg, reduceCtorEq, Option.bind_some, Option.map_some, List.length_cons, List.length_nil, vcM, List.getElem?_toArray, List.getElem?_cons_zero, List.getElem?_cons_succ, d2])
      (refine W_at c6_ok ?_; refine ⟨_, rfl, ?_⟩; simp (disch := first | omega | assumption | rfl | (simp only [vcS] <;> omega) | fail) only [↓ptV_l, ↓vcA, vcB, ↓vcD, vcE, ↓reduceIte, Nat.reduceEqDiff, Nat.reduceAdd, Nat.reduceMul, Nat.reduceLeDiff, Int.reduceLE, Int.reduceLT, Int.reduceEq, Int.reduceToNat, Int.reduceAdd, Int.reduceSub, Int.reduceMul, Int.reduceNeg, reduceCtorEq, Option.bind_some, Option.map_some, List.length_cons, List.length_nil, vcM, List.getElem?_toArray, List.getElem?_cons_zero, List.getElem?_cons_succ])
      exact st6 wz vX ox _ c2 hz
  have h5j := hP.ext.at h5 (fun h => h)
  by_cases ha : 128 ≤ kind
  · (refine W_at c6_ok ?_; refine ⟨_, rfl, ?_⟩; simp (disch := first | omega | assumption | rfl | (simp only [vcS] <;> omega) | fail) only [↓ptV_l, ↓vcA, vcB, ↓vcD, vcE, ↓reduceIte, Nat.reduceEqDiff, Nat.reduceAdd, Nat.reduceMul, Nat.reduceLeDiff, Int.reduceLE, Int.reduceLT, Int.reduceEq, Int.reduceToNat, Int.reduceAdd, Int.reduceSub, Int.reduceMul, Int.reduceNeg, reduceCtorEq, Option.bind_some, Option.map_some, List.length_cons, List.length_nil, vcM, List.getElem?_toArray, List.getElem?_cons_zero, List.getElem?_cons_succ, h5j, y1, ha])
    (refine W_at c6_ok ?_; refine ⟨_, rfl, ?_⟩; simp (disch := first | omega | assumption | rfl | (simp only [vcS] <;> omega) | fail) only [↓ptV_l, ↓vcA, vcB, ↓vcD, vcE, ↓reduceIte, Nat.reduceEqDiff, Nat.reduceAdd, Nat.reduceMul, Nat.reduceLeDiff, Int.reduceLE, Int.reduceLT, Int.reduceEq, Int.reduceToNat, Int.reduceAdd, Int.reduceSub, Int.reduceMul, Int.reduceNeg, reduceCtorEq, Option.bind_some, Option.map_some, List.length_cons, List.length_nil, vcM, List.getElem?_toArray, List.getElem?_cons_zero, List.getElem?_cons_succ])
    have h4j := hP.ext.at h4 (fun h => h)
    have c7j := hP.c7
    have hUj := hU.ext hP.ext
    have x1 : (txC t vx ox)[1]? = some vx := rfl
    (refine W_at c6_ok ?_; refine ⟨_, rfl, ?_⟩; simp (disch := first | omega | assumption | rfl | (simp only [vcS] <;> omega) | fail) only [↓ptV_l, ↓vcA, vcB, ↓vcD, vcE, ↓reduceIte, Nat.reduceEqDiff, Nat.reduceAdd, Nat.reduceMul, Nat.reduceLeDiff, Int.reduceLE, Int.reduceLT, Int.reduceEq, Int.reduceToNat, Int.reduceAdd, Int.reduceSub, Int.reduceMul, Int.reduceNeg, reduceCtorEq, Option.bind_some, Option.map_some, List.length_cons, List.length_nil, vcM, List.getElem?_toArray, List.getElem?_cons_zero, List.getElem?_cons_succ, h4j, u1, c7j, x1])
    have hblk : ∀ g, blk vx g → wB.heap.size ≤ g ∧ ∃ c, wj.heap[g]? = some (.cells c 50 (0, 0)) := fun g hg => ListN.blkT hP.ins hg
    have hsB := hP.ext.size
    refine ListN.cat (m2 := mu) hP.ins (ListN.imp hUj.ins (Nat.le_refl _) fun c x _ h => (IP.base h (Nat.zero_le _) : IP0 mu wj c x)) (fun c x h => IP0.flat h) (fun w c x h => h) (by rw [List.length_mapIdx]; omega) (by rw [List.length_mapIdx]; omega) rfl (by decide) hsB (fun S w1 w2 c x k hS h => IP0.kT S w1 w2 c x k hS h) fun v' w' k1 k2 k3 => ?_
    have hout' : ListN OG 54 2 wB.heap.size w' ox t.outs := ListN.keepT hP.outs k2 (fun g hg c e => by obtain ⟨_, c', hc⟩ := hblk g hg; rw [hc] at e; cases e) fun c x h => OG.keepT h k2 fun g hg c e => by obtain ⟨_, c', hc⟩ := hblk g hg; rw [hc] at e; cases e
    have c7' : w'.heap[p7]? = some (.cells (txC t vx ox) 26 (0, 0)) := k2.at c7j fun hs => by obtain ⟨_, c', hc⟩ := hblk _ hs; rw [c7j] at hc; cases hc
    have hEw : Ext wB w' := hP.ext.trans k2 fun g hg hs => by have := (hblk g hs).1; omega
    have v1 := ListN.one k1
    obtain ⟨hw, hz⟩ := FZ.mk1 hEw c7' (ListN.imp k1 (Nat.zero_le _) fun _ _ _ h => h) (ListN.imp hout' (Nat.zero_le _) fun _ _ _ h => h) hP.l7
    refine ⟨v1, hw, ?_⟩
    refine st9 _ v' _ ?_
    rw [insE, if_pos ha]
    exact hz
  · (refine W_at c6_ok ?_; refine ⟨_, rfl, ?_⟩; simp (disch := first | omega | assumption | rfl | (simp only [vcS] <;> omega) | fail) only [↓ptV_l, ↓vcA, vcB, ↓vcD, vcE, ↓reduceIte, Nat.reduceEqDiff, Nat.reduceAdd, Nat.reduceMul, Nat.reduceLeDiff, Int.reduceLE, Int.reduceLT, Int.reduceEq, Int.reduceToNat, Int.reduceAdd, Int.reduceSub, Int.reduceMul, Int.reduceNeg, reduceCtorEq, Option.bind_some, Option.map_some, List.length_cons, List.length_nil, vcM, List.getElem?_toArray, List.getElem?_cons_zero, List.getElem?_cons_succ, h5j, y1, ha])
    (refine W_at c6_ok ?_; refine ⟨_, rfl, ?_⟩; simp (disch := first | omega | assumption | rfl | (simp only [vcS] <;> omega) | fail) only [↓ptV_l, ↓vcA, vcB, ↓vcD, vcE, ↓reduceIte, Nat.reduceEqDiff, Nat.reduceAdd, Nat.reduceMul, Nat.reduceLeDiff, Int.reduceLE, Int.reduceLT, Int.reduceEq, Int.reduceToNat, Int.reduceAdd, Int.reduceSub, Int.reduceMul, Int.reduceNeg, reduceCtorEq, Option.bind_some, Option.map_some, List.length_cons, List.length_nil, vcM, List.getElem?_toArray, List.getElem?_cons_zero, List.getElem?_cons_succ])
    refine st9 wj vx _ ?_
    rw [insE, if_neg ha, List.append_nil]
    exact hP.fz
end Go.Proofs
namespace Go.Proofs
open Go.Vc
set_option maxRecDepth 10000

set_option maxHeartbeats 6400000 in
theorem free_ok (w : World) (iv ov iv2 ov2 : Value) (t u : TxV) (hT : TxR w iv ov t) (hok : t.Ok) (hsz : t.Sz) (hU : TxR w iv2 ov2 u) (hou : u.Ok) (hsu : u.Sz) (i : Int) (hi64 : -9223372036854775808 ≤ i ∧ i ≤ 9223372036854775807) (kind : Int) (hk : 0 ≤ kind ∧ kind ≤ 255) (sx : Value) (bs : List Int) (hx : Rd w sx bs) (hb : byt bs) (value : Int) :
    Calls Try.prog 6 #[.agg (txC t iv ov), .agg (txC u iv2 ov2), .agg (wyC i kind sx value)] w (Ret fun u w' => u = .bool true ∧ Ext w w') := by
  refine calls_of_cfg c6_ok (Nat.le_of_ble_eq_true rfl) ?_
  simp only [argE_nil, argE_cons, Nat.reduceAdd, Nat.zero_add]
  have hfx := txC_flat hT
  have hcx : (Value.agg (txC t iv ov)).cells = txC t iv ov := rfl
  have hzx := txC_sz t iv ov
  have hfu := txC_flat hU
  have hcu : (Value.agg (txC u iv2 ov2)).cells = txC u iv2 ov2 := rfl
  have hzu := txC_sz u iv2 ov2
  have hfy := wyC_flat (i := i) (kind := kind) (value := value) hx.one
  have hcy : (Value.agg (wyC i kind sx value)).cells = wyC i kind sx value := rfl
  have hzy : (wyC i kind sx value).size = 4 := rfl
  (refine W_at c6_ok ?_; refine ⟨_, rfl, ?_⟩; simp (disch := first | omega | assumption | rfl | (simp only [vcS] <;> omega) | fail) only [↓ptV_l, ↓vcA, vcB, ↓vcD, vcE, ↓reduceIte, Nat.reduceEqDiff, Nat.reduceAdd, Nat.reduceMul, Nat.reduceLeDiff, Int.reduceLE, Int.reduceLT, Int.reduceEq, Int.reduceToNat, Int.reduceAdd, Int.reduceSub, Int.reduceMul, Int.reduceNeg, reduceCtorEq, Option.bind_some, Option.map_some, List.length_cons, List.length_nil, vcM, List.getElem?_toArray, List.getElem?_cons_zero, List.getElem?_cons_succ, hfx, hcx, hzx, hfu, hcu, hzu, hfy, hcy, hzy])
  have al : ∀ (w : World) (o : Obj), Ext w (w.alloc o) := fun w o => (Keep.refl _ w).alloc _
  have hE1 := al w (.cells (txC t iv ov) 26)
  have c3 : (w.alloc (.cells (txC t iv ov) 26)).heap[w.heap.size]? = some (.cells (txC t iv ov) 26 (0, 0)) := heap_new _ _ _ rfl
  have s1 : (w.alloc (.cells (txC t iv ov) 26)).heap.size = w.heap.size + 1 := size_alloc _ _
  generalize World.alloc w _ = w1 at hE1 c3 s1 ⊢
  have hE2 := al w1 (.cells (txC u iv2 ov2) 26)
  have c4 : (w1.alloc (.cells (txC u iv2 ov2) 26)).heap[w.heap.size + 1]? = some (.cells (txC u iv2 ov2) 26 (0, 0)) := heap_new _ _ _ s1.symm
  have s2 : (w1.alloc (.cells (txC u iv2 ov2) 26)).heap.size = w.heap.size + 1 + 1 := by rw [size_alloc, s1]
  generalize World.alloc w1 _ = w2 at hE2 c4 s2 ⊢
  have hE3 := al w2 (.cells (wyC i kind sx value) 29)
  have c5 : (w2.alloc (.cells (wyC i kind sx value) 29)).heap[w.heap.size + 1 + 1]? = some (.cells (wyC i kind sx value) 29 (0, 0)) := heap_new _ _ _ s2.symm
  generalize World.alloc w2 _ = w3 at hE3 c5 ⊢
  have c43 := hE3.at c4 (fun h => h)
  have c33 := hE3.at (hE2.at c3 (fun h => h)) (fun h => h)
  have hE03 := (hE1.ext hE2).ext hE3
  clear c3 c4 hE1 hE2 hE3 s1 s2
  generalize hp5 : w.heap.size + 1 + 1 = p5 at c5 ⊢
  generalize hp4 : w.heap.size + 1 = p4 at c43 hp5 ⊢
  generalize hp3 : w.heap.size = p3 at c33 hp4 ⊢
  have y0 : (wyC i kind sx value)[0]? = some (.int .i64 i) := rfl
  have y1 : (wyC i kind sx value)[1]? = some (.int .u8 kind) := rfl
  have r4 : ∀ (t : TxV) (iv ov : Value), rdO (some (.cells (txC t iv ov) 26 (0, 0))) 0 4 = some (txC t iv ov) := fun t iv ov => rdO_all _ _ _ _ rfl
  -- awake
  (refine W_at c6_ok ?_; refine ⟨_, rfl, ?_⟩; simp (disch := first | omega | assumption | rfl | (simp only [vcS] <;> omega) | fail) only [↓ptV_l, ↓vcA, vcB, ↓vcD, vcE, ↓reduceIte, Nat.reduceEqDiff, Nat.reduceAdd, Nat.reduceMul, Nat.reduceLeDiff, Int.reduceLE, Int.reduceLT, Int.reduceEq, Int.reduceToNat, Int.reduceAdd, Int.reduceSub, Int.reduceMul, Int.reduceNeg, reduceCtorEq, Option.bind_some, Option.map_some, List.length_cons, List.length_nil, vcM, List.getElem?_toArray, List.getElem?_cons_zero, List.getElem?_cons_succ])
  refine callV_ret (awake12_ok w3) ?_
  rintro _ w4 ⟨rfl, hE4⟩
  first | (simp (disch := first | omega | assumption | rfl | (simp only [vcS] <;> omega) | fail) only [↓ptV_l, ↓vcA, vcB, ↓vcD, vcE, ↓reduceIte, Nat.reduceEqDiff, Nat.reduceAdd, Nat.reduceMul, Nat.reduceLeDiff, Int.reduceLE, Int.reduceLT, Int.reduceEq, Int.reduceToNat, Int.reduceAdd, Int.reduceSub, Int.reduceMul, Int.reduceNeg, reduceCtorEq, Option.bind_some, Option.map_some, List.length_cons, List.length_nil, vcM, List.getElem?_toArray, List.getElem?_cons_zero, List.getElem?_cons_succ]) | skip
  (refine W_at c6_ok ?_; refine ⟨_, rfl, ?_⟩; simp (disch := first | omega | assumption | rfl | (simp only [vcS] <;> omega) | fail) only [↓ptV_l, ↓vcA, vcB, ↓vcD, vcE, ↓reduceIte, Nat.reduceEqDiff, Nat.reduceAdd, Nat.reduceMul, Nat.reduceLeDiff, Int.reduceLE, Int.reduceLT, Int.reduceEq, Int.reduceToNat, Int.reduceAdd, Int.reduceSub, Int.reduceMul, Int.reduceNeg, reduceCtorEq, Option.bind_some, Option.map_some, List.length_cons, List.length_nil, vcM, List.getElem?_toArray, List.getElem?_cons_zero, List.getElem?_cons_succ])
  -- cut short
  have hEd : Ext w4 w4.drew := (Keep.refl _ w4).drew
  have c34 := hE4.at c33 (fun h => h)
  have c44 := hE4.at c43 (fun h => h)
  have c54 := hE4.at c5 (fun h => h)
  have c34d := hEd.at c34 (fun h => h)
  have c44d := hEd.at c44 (fun h => h)
  have c54d := hEd.at c54 (fun h => h)
  have hE0d := hE03.ext (hE4.ext hEd)
  (refine W_at c6_ok ?_; refine ⟨_, rfl, ?_⟩; simp (disch := first | omega | assumption | rfl | (simp only [vcS] <;> omega) | fail) only [↓vcL1, ptS2_eq, ↓vcA, vcB, ↓vcD, vcE, ↓reduceIte, Nat.reduceEqDiff, Nat.reduceAdd, Nat.reduceMul, Nat.reduceLeDiff, Int.reduceLE, Int.reduceLT, Int.reduceEq, Int.reduceToNat, Int.reduceAdd, Int.reduceSub, Int.reduceMul, Int.reduceNeg, reduceCtorEq, Option.bind_some, Option.map_some, List.length_cons, List.length_nil, vcM, List.getElem?_toArray, List.getElem?_cons_zero, List.getElem?_cons_succ, c34, c44, c34d, c44d, r4])
  refine callV_ret (few12_ok w4.drew iv ov t (hT.ext hE0d) hok hsz) ?_
  rintro _ w5 ⟨t', it, ot, rfl, hT5, hok5, hsz5, hL5, hE5⟩
  have c35 := hE5.at c34d (fun h => h)
  have c45 := hE5.at c44d (fun h => h)
  have c55 := hE5.at c54d (fun h => h)
  have hE05 := hE0d.ext hE5
  refine ⟨by rw [c45, r4]; rfl, ?_⟩
  simp (disch := first | omega | assumption | rfl | (simp only [vcS] <;> omega) | fail) only [↓vcL2, ptS1_eq, ↓vcA, vcB, ↓vcD, vcE, ↓reduceIte, Nat.reduceEqDiff, Nat.reduceAdd, Nat.reduceMul, Nat.reduceLeDiff, Int.reduceLE, Int.reduceLT, Int.reduceEq, Int.reduceToNat, Int.reduceAdd, Int.reduceSub, Int.reduceMul, Int.reduceNeg, reduceCtorEq, Option.bind_some, Option.map_some, List.length_cons, List.length_nil, vcM, List.getElem?_toArray, List.getElem?_cons_zero, List.getElem?_cons_succ, c45, r4]
  refine callV_ret (few12_ok w5 iv2 ov2 u (hU.ext hE05) hou hsu) ?_
  rintro _ w6 ⟨u', iu, ou, rfl, hU6, hou6, hsu6, hL6, hE6⟩
  have c36 := hE6.at c35 (fun h => h)
  have c46 := hE6.at c45 (fun h => h)
  have c56 := hE6.at c55 (fun h => h)
  have hT6 := hT5.ext hE6
  have hE06 := hE05.ext hE6
  have hzt := txC_sz t' it ot
  have hzu' := txC_sz u' iu ou
  have o4 : okO (some (.cells (txC t iv ov) 26 (0, 0))) 0 4 = True := by simp only [okO, hzx]; simp
  have o5 : okO (some (.cells (txC u iv2 ov2) 26 (0, 0))) 0 4 = True := by simp only [okO, hzu]; simp
  have hk7 : Keep (fun g => g = p3) w6 (w6.putN p3 0 (txC t' it ot)) := (Keep.refl _ w6).putN _ fun _ => rfl
  have c47 := hk7.at c46 (show ¬ p4 = p3 by omega)
  first | (simp (disch := first | omega | assumption | rfl | (simp only [vcS] <;> omega) | fail) only [↓vcL1, ptS2_eq, ↓vcA, vcB, ↓vcD, vcE, ↓reduceIte, Nat.reduceEqDiff, Nat.reduceAdd, Nat.reduceMul, Nat.reduceLeDiff, Int.reduceLE, Int.reduceLT, Int.reduceEq, Int.reduceToNat, Int.reduceAdd, Int.reduceSub, Int.reduceMul, Int.reduceNeg, reduceCtorEq, Option.bind_some, Option.map_some, List.length_cons, List.length_nil, vcM, List.getElem?_toArray, List.getElem?_cons_zero, List.getElem?_cons_succ, c36, c46, c47, hzt, hzu', o4, o5]) | skip
  refine ⟨txC_flat hT6.r, txC_flat hU6.r, ?_⟩
  have c57 := hk7.at c56 (show ¬ p5 = p3 by omega)
  have hT7 := hT6.keepT hk7 fun g hg => by subst hg; exact ⟨_, _, c36, by decide, by decide, by decide, by decide⟩
  have hU7 := hU6.keepT hk7 fun g hg => by subst hg; exact ⟨_, _, c36, by decide, by decide, by decide, by decide⟩
  have d3 : (w6.putN p3 0 (txC t' it ot)).heap[p3]? = some (.cells (txC t' it ot) 26 (0, 0)) := by rw [heap_putN_eq c36, splice_all (by rw [hzx, hzt])]
  have hE07 : Ext w (w6.putN p3 0 (txC t' it ot)) := hE06.trans hk7 fun g hg e => by omega
  generalize World.putN w6 _ _ _ = w7 at c47 c57 hT7 hU7 d3 hE07 ⊢
  have hk8 : Keep (fun g => g = p4) w7 (w7.putN p4 0 (txC u' iu ou)) := (Keep.refl _ w7).putN _ fun _ => rfl
  have d38 := hk8.at d3 (show ¬ p3 = p4 by omega)
  have c58 := hk8.at c57 (show ¬ p5 = p4 by omega)
  have hT8 := hT7.keepT hk8 fun g hg => by subst hg; exact ⟨_, _, c47, by decide, by decide, by decide, by decide⟩
  have hU8 := hU7.keepT hk8 fun g hg => by subst hg; exact ⟨_, _, c47, by decide, by decide, by decide, by decide⟩
  have d4 : (w7.putN p4 0 (txC u' iu ou)).heap[p4]? = some (.cells (txC u' iu ou) 26 (0, 0)) := by rw [heap_putN_eq c47, splice_all (by rw [hzu, hzu'])]
  have hE08 : Ext w (w7.putN p4 0 (txC u' iu ou)) := hE07.trans hk8 fun g hg e => by omega
  generalize World.putN w7 _ _ _ = w8 at d38 c58 hT8 hU8 d4 hE08 ⊢
  clear hk8 hk7 c36 c46 c56 c47 c57 hT7 hU7 d3 hE07 hT6 hU6 hT5 c35 c45 c55 hE06 hE05 hE0d hEd c34 c44 c54 c34d c44d c54d hE03 c33 c43 c5 o4 o5
  have hli := ListN.len hT8.ins
  have x1 : (txC t' it ot)[1]? = some it := rfl
  -- is there such an input?
  by_cases a1 : i < 0
  · (refine W_at c6_ok ?_; refine ⟨_, rfl, ?_⟩; simp (disch := first | omega | assumption | rfl | (simp only [vcS] <;> omega) | fail) only [↓ptV_l, ↓vcA, vcB, ↓vcD, vcE, ↓reduceIte, Nat.reduceEqDiff, Nat.reduceAdd, Nat.reduceMul, Nat.reduceLeDiff, Int.reduceLE, Int.reduceLT, Int.reduceEq, Int.reduceToNat, Int.reduceAdd, Int.reduceSub, Int.reduceMul, Int.reduceNeg, reduceCtorEq, Option.bind_some, Option.map_some, List.length_cons, List.length_nil, vcM, List.getElem?_toArray, List.getElem?_cons_zero, List.getElem?_cons_succ, c58, y0, a1])
    (refine W_at c6_ok ?_; refine ⟨_, rfl, ?_⟩; simp (disch := first | omega | assumption | rfl | (simp only [vcS] <;> omega) | fail) only [↓ptV_l, ↓vcA, vcB, ↓vcD, vcE, ↓reduceIte, Nat.reduceEqDiff, Nat.reduceAdd, Nat.reduceMul, Nat.reduceLeDiff, Int.reduceLE, Int.reduceLT, Int.reduceEq, Int.reduceToNat, Int.reduceAdd, Int.reduceSub, Int.reduceMul, Int.reduceNeg, reduceCtorEq, Option.bind_some, Option.map_some, List.length_cons, List.length_nil, vcM, List.getElem?_toArray, List.getElem?_cons_zero, List.getElem?_cons_succ])
    (refine W_at c6_ok ?_; refine ⟨_, rfl, ?_⟩; simp (disch := first | omega | assumption | rfl | (simp only [vcS] <;> omega) | fail) only [↓ptV_l, ↓vcA, vcB, ↓vcD, vcE, ↓reduceIte, Nat.reduceEqDiff, Nat.reduceAdd, Nat.reduceMul, Nat.reduceLeDiff, Int.reduceLE, Int.reduceLT, Int.reduceEq, Int.reduceToNat, Int.reduceAdd, Int.reduceSub, Int.reduceMul, Int.reduceNeg, reduceCtorEq, Option.bind_some, Option.map_some, List.length_cons, List.length_nil, vcM, List.getElem?_toArray, List.getElem?_cons_zero, List.getElem?_cons_succ])
    (refine W_at c6_ok ?_; refine ⟨_, rfl, ?_⟩; simp (disch := first | omega | assumption | rfl | (simp only [vcS] <;> omega) | fail) only [↓ptV_l, ↓vcA, vcB, ↓vcD, vcE, ↓reduceIte, Nat.reduceEqDiff, Nat.reduceAdd, Nat.reduceMul, Nat.reduceLeDiff, Int.reduceLE, Int.reduceLT, Int.reduceEq, Int.reduceToNat, Int.reduceAdd, Int.reduceSub, Int.reduceMul, Int.reduceNeg, reduceCtorEq, Option.bind_some, Option.map_some, List.length_cons, List.length_nil, vcM, List.getElem?_toArray, List.getElem?_cons_zero, List.getElem?_cons_succ, Ret_returned])
    exact hE08
  by_cases a2 : (t'.ins.length : Int) ≤ i
  · (refine W_at c6_ok ?_; refine ⟨_, rfl, ?_⟩; simp (disch := first | omega | assumption | rfl | (simp only [vcS] <;> omega) | fail) only [↓ptV_l, ↓vcA, vcB, ↓vcD, vcE, ↓reduceIte, Nat.reduceEqDiff, Nat.reduceAdd, Nat.reduceMul, Nat.reduceLeDiff, Int.reduceLE, Int.reduceLT, Int.reduceEq, Int.reduceToNat, Int.reduceAdd, Int.reduceSub, Int.reduceMul, Int.reduceNeg, reduceCtorEq, Option.bind_some, Option.map_some, List.length_cons, List.length_nil, vcM, List.getElem?_toArray, List.getElem?_cons_zero, List.getElem?_cons_succ, c58, y0, a1, a2, d38, x1, hli])
    (refine W_at c6_ok ?_; refine ⟨_, rfl, ?_⟩; simp (disch := first | omega | assumption | rfl | (simp only [vcS] <;> omega) | fail) only [↓ptV_l, ↓vcA, vcB, ↓vcD, vcE, ↓reduceIte, Nat.reduceEqDiff, Nat.reduceAdd, Nat.reduceMul, Nat.reduceLeDiff, Int.reduceLE, Int.reduceLT, Int.reduceEq, Int.reduceToNat, Int.reduceAdd, Int.reduceSub, Int.reduceMul, Int.reduceNeg, reduceCtorEq, Option.bind_some, Option.map_some, List.length_cons, List.length_nil, vcM, List.getElem?_toArray, List.getElem?_cons_zero, List.getElem?_cons_succ])
    (refine W_at c6_ok ?_; refine ⟨_, rfl, ?_⟩; simp (disch := first | omega | assumption | rfl | (simp only [vcS] <;> omega) | fail) only [↓ptV_l, ↓vcA, vcB, ↓vcD, vcE, ↓reduceIte, Nat.reduceEqDiff, Nat.reduceAdd, Nat.reduceMul, Nat.reduceLeDiff, Int.reduceLE, Int.reduceLT, Int.reduceEq, Int.reduceToNat, Int.reduceAdd, Int.reduceSub, Int.reduceMul, Int.reduceNeg, reduceCtorEq, Option.bind_some, Option.map_some, List.length_cons, List.length_nil, vcM, List.getElem?_toArray, List.getElem?_cons_zero, List.getElem?_cons_succ])
    (refine W_at c6_ok ?_; refine ⟨_, rfl, ?_⟩; simp (disch := first | omega | assumption | rfl | (simp only [vcS] <;> omega) | fail) only [↓ptV_l, ↓vcA, vcB, ↓vcD, vcE, ↓reduceIte, Nat.reduceEqDiff, Nat.reduceAdd, Nat.reduceMul, Nat.reduceLeDiff, Int.reduceLE, Int.reduceLT, Int.reduceEq, Int.reduceToNat, Int.reduceAdd, Int.reduceSub, Int.reduceMul, Int.reduceNeg, reduceCtorEq, Option.bind_some, Option.map_some, List.length_cons, List.length_nil, vcM, List.getElem?_toArray, List.getElem?_cons_zero, List.getElem?_cons_succ, Ret_returned])
    exact hE08
  (refine W_at c6_ok ?_; refine ⟨_, rfl, ?_⟩; simp (disch := first | omega | assumption | rfl | (simp only [vcS] <;> omega) | fail) only [↓ptV_l, ↓vcA, vcB, ↓vcD, vcE, ↓reduceIte, Nat.reduceEqDiff, Nat.reduceAdd, Nat.reduceMul, Nat.reduceLeDiff, Int.reduceLE, Int.reduceLT, Int.reduceEq, Int.reduceToNat, Int.reduceAdd, Int.reduceSub, Int.reduceMul, Int.reduceNeg, reduceCtorEq, Option.bind_some, Option.map_some, List.length_cons, List.length_nil, vcM, List.getElem?_toArray, List.getElem?_cons_zero, List.getElem?_cons_succ, c58, y0, a1, a2, d38, x1, hli])
  (refine W_at c6_ok ?_; refine ⟨_, rfl, ?_⟩; simp (disch := first | omega | assumption | rfl | (simp only [vcS] <;> omega) | fail) only [↓ptV_l, ↓vcA, vcB, ↓vcD, vcE, ↓reduceIte, Nat.reduceEqDiff, Nat.reduceAdd, Nat.reduceMul, Nat.reduceLeDiff, Int.reduceLE, Int.reduceLT, Int.reduceEq, Int.reduceToNat, Int.reduceAdd, Int.reduceSub, Int.reduceMul, Int.reduceNeg, reduceCtorEq, Option.bind_some, Option.map_some, List.length_cons, List.length_nil, vcM, List.getElem?_toArray, List.getElem?_cons_zero, List.getElem?_cons_succ])
  obtain ⟨n, rfl⟩ := Int.eq_ofNat_of_zero_le (show 0 ≤ i by omega)
  have hn : n < t'.ins.length := by omega
  -- a copy
  (refine W_at c6_ok ?_; refine ⟨_, rfl, ?_⟩; simp (disch := first | omega | assumption | rfl | (simp only [vcS] <;> omega) | fail) only [↓ptV_l, ↓vcA, vcB, ↓vcD, vcE, ↓reduceIte, Nat.reduceEqDiff, Nat.reduceAdd, Nat.reduceMul, Nat.reduceLeDiff, Int.reduceLE, Int.reduceLT, Int.reduceEq, Int.reduceToNat, Int.reduceAdd, Int.reduceSub, Int.reduceMul, Int.reduceNeg, reduceCtorEq, Option.bind_some, Option.map_some, List.length_cons, List.length_nil, vcM, List.getElem?_toArray, List.getElem?_cons_zero, List.getElem?_cons_succ, d38, r4])
  refine callV_ret (rcopy_ok w8 it ot t' hT8.r hok5 hsz5) ?_
  rintro _ w9 ⟨v1, o1, rfl, hI9, hO9, hE9⟩
  have hX9 := txT_of hI9 hO9 hok5 hsz5
  have hz9 := txC_sz t' v1 o1
  have hf9 := txC_flat hX9.r
  first | (simp (disch := first | omega | assumption | rfl | (simp only [vcS] <;> omega) | fail) only [↓ptV_l, ↓vcA, vcB, ↓vcD, vcE, ↓reduceIte, Nat.reduceEqDiff, Nat.reduceAdd, Nat.reduceMul, Nat.reduceLeDiff, Int.reduceLE, Int.reduceLT, Int.reduceEq, Int.reduceToNat, Int.reduceAdd, Int.reduceSub, Int.reduceMul, Int.reduceNeg, reduceCtorEq, Option.bind_some, Option.map_some, List.length_cons, List.length_nil, vcM, List.getElem?_toArray, List.getElem?_cons_zero, List.getElem?_cons_succ, hz9, hf9]) | skip
  obtain ⟨hEA, d7⟩ := put_tx (wj := w9) (t := t') (iv := v1) (ov := o1)
  refine ⟨by decide, ?_⟩
  generalize World.putN _ _ _ _ = wA at hEA d7 ⊢
  have hs9 := hE9.size
  generalize w9.heap.size = p7 at d7 hs9 ⊢
  have hE8A := hE9.ext hEA
  have hXA := hX9.ext hEA
  have hP : FR w8 wA p7 t' v1 o1 t'.ins := ⟨hE8A, d7, ListN.imp hXA.ins (Nat.le_refl _) fun c x _ h => IP.base h (Nat.zero_le _), hXA.outs, hs9⟩
  have c5A := hE8A.at c58 (fun h => h)
  have a3 : kind.tmod 32 = kind % 32 := Int.tmod_eq_emod_of_nonneg hk.1
  have hlx := ListN.len hP.ins
  have x1' : (txC t' v1 o1)[1]? = some v1 := rfl
  have hl1 := hL5.ins
  have hl2 := hL6.ins
  (refine W_at c6_ok ?_; refine ⟨_, rfl, ?_⟩; simp (disch := first | omega | assumption | rfl | (simp only [vcS] <;> omega) | fail) only [↓ptV_l, ↓vcA, vcB, ↓vcD, vcE, ↓reduceIte, Nat.reduceEqDiff, Nat.reduceAdd, Nat.reduceMul, Nat.reduceLeDiff, Int.reduceLE, Int.reduceLT, Int.reduceEq, Int.reduceToNat, Int.reduceAdd, Int.reduceSub, Int.reduceMul, Int.reduceNeg, reduceCtorEq, Option.bind_some, Option.map_some, List.length_cons, List.length_nil, vcM, List.getElem?_toArray, List.getElem?_cons_zero, List.getElem?_cons_succ, c5A, y1, a3])
  (refine W_at c6_ok ?_; refine ⟨_, rfl, ?_⟩; simp (disch := first | omega | assumption | rfl | (simp only [vcS] <;> omega) | fail) only [↓ptV_l, ↓vcA, vcB, ↓vcD, vcE, ↓reduceIte, Nat.reduceEqDiff, Nat.reduceAdd, Nat.reduceMul, Nat.reduceLeDiff, Int.reduceLE, Int.reduceLT, Int.reduceEq, Int.reduceToNat, Int.reduceAdd, Int.reduceSub, Int.reduceMul, Int.reduceNeg, reduceCtorEq, Option.bind_some, Option.map_some, List.length_cons, List.length_nil, vcM, List.getElem?_toArray, List.getElem?_cons_zero, List.getElem?_cons_succ, d7, x1', hlx])
  refine free_loop _ w8 p3 p4 p5 p7 n _ t' u' v1 o1 iu ou sx kind value hk d4 c58 hU8 hok5 hou6 (by omega) (by omega) (fun wj tl hz => ?_) t'.ins.length 0 wA _ (by omega) (by rw [modTo_0]; exact hP)
  exact free_end w w8 p3 p4 p5 p7 n _ _ t' u' it ot iu ou sx bs kind value hE08 hk d38 d4 c58 hT8 hU8 hok5 hsz5 hou6 hsu6 hL5 hL6 hn (hx.ext hE08) hb wj v1 o1 tl hz
end Go.Proofs
namespace Go.Proofs.Ytmbjokhekfiihaa
open Go.Vc Go.ChangeShapes Go.WideShapes Go.ChangeAt Go.RowKit Go.Proofs

set_option maxRecDepth 100000 in
theorem free_lifted (os : Os) (started : os.Started) (H : Type) (enc : TypeId × Value → H) :
    ReturnsInHanded {} Try.checked os 6 .any (Rows.sighashFreeSpec.pre6 enc Try.prog Try.f6 Rows.sighashFreeRow.domain false) (Rows.sighashFreeSpec.post enc Try.prog Try.f6 false true false false) := by
  refine returnsInHanded_of_change_sized (C := Try.checked) Try.own started (by kernel_rfl) Try.func6
    (ChangeSpec.witness6 (enc := enc) (C := Try.checked) false ⟨#[], #[.agg #[.int .i32 0, .slice none 0 0, .slice none 0 0, .int .u32 0], .agg #[.int .i32 0, .slice none 0 0, .slice none 0 0, .int .u32 0], .agg #[.int .i64 0, .int .u8 0, .slice none 0 0, .int .i64 0]], []⟩ 8 (by kernel_rfl) (by kernel_rfl) (by kernel_rfl) (by kernel_rfl)) ?_
  intro W base args ds gs before hval0 hW hcnd hz _
  refine post_trueB bzT Try.laidOut rfl rfl (tb := 4) (by kernel_rfl) ?_ ?_ hval0 hW hz ?_
  · rw [Try.params6]; intro t ht; simp at ht; rcases ht with rfl | rfl | rfl <;> exact ⟨by kernel_rfl, of_decide_eq_true (by kernel_rfl)⟩
  · intro ds hd; rw [Try.params6] at hd; match ds, hd with | [_, _, _], _ => rfl
  · intro hs ha
    rw [Try.params6] at hs ha
    obtain ⟨v, u, x, rfl⟩ := args_3 hs
    obtain ⟨t, iv, ov, rfl, hT, hok, hsz⟩ := tx_arg (ha 0 26 v rfl rfl)
    obtain ⟨t2, iv2, ov2, rfl, hT2, hok2, hsz2⟩ := tx_arg (ha 1 26 u rfl rfl)
    obtain ⟨i, kind, sx, value, bs, rfl, hi, hk, hx, hb, hv⟩ := way_arg (ha 2 29 x rfl rfl)
    exact free_ok W iv ov iv2 ov2 t t2 hT hok hsz hT2 hok2 hsz2 i hi kind hk sx bs hx hb value
theorem free_holds : Rows.SighashFreeSaid :=
  OpenClaim.holds_of_wide 6 Try.f6 rfl rfl rfl rfl rfl rfl rfl ⟨rfl, rfl, rfl, rfl, rfl⟩ rfl rfl rfl rfl rfl (by kernel_rfl) Try.func6 (by kernel_rfl)
    (of_decide_eq_true (by kernel_rfl)) (by unfold Func.isWrapper; first | (rw [if_pos (by decide +kernel)]; kernel_rfl) | (rw [if_neg (by decide +kernel)]; exact ⟨rfl, rfl⟩))
    (fun os started H enc _ => free_lifted os started H enc)
end Go.Proofs.Ytmbjokhekfiihaa
