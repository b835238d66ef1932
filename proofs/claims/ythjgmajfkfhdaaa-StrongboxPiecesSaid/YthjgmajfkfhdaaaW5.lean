/- The program's 'try': what reads gives up, and the reader stands as it stood. -/
import Derived.Test.YthjgmajfkfhdaaaW4
set_option linter.unusedSimpArgs false
set_option linter.unusedVariables false
set_option linter.constructorNameAsVariable false
namespace Go.Proofs
open Go.Vc
set_option maxRecDepth 10000

/-- The reader's block; what is left lies in block B. -/
structure RAt (w : World) (r B : Nat) (v : Value) (bs : List Int) (e : Int) : Prop where
  at' : w.heap[r]? = some (.cells #[v, .int .i64 e] 80 (0, 0))
  rd : Rd w v bs
  bb : ∀ q n c, v = .slice (some q) n c → q.block = B ∧ B < w.heap.size ∧ B ≠ r
theorem RAt.keep {S : Nat → Prop} {w w' : World} {r B : Nat} {v : Value} {bs : List Int} {e : Int} (h : RAt w r B v bs e) (k : Keep S w w') (hr : ¬ S r) (hB : B < w.heap.size → ¬ S B) : RAt w' r B v bs e :=
  ⟨k.at h.at' hr, h.rd.keep k fun q n c hv => by obtain ⟨h1, h2, _⟩ := h.bb q n c hv; rw [h1]; exact hB h2, fun q n c hv => by obtain ⟨h1, h2, h3⟩ := h.bb q n c hv; exact ⟨h1, Nat.lt_of_lt_of_le h2 k.size, h3⟩⟩
theorem RAt.ext {w w' : World} {r B : Nat} {v : Value} {bs : List Int} {e : Int} (h : RAt w r B v bs e) (k : Ext w w') : RAt w' r B v bs e := h.keep k (fun h => h) fun _ h => h
theorem RAt.lt {w : World} {r B : Nat} {v : Value} {bs : List Int} {e : Int} (h : RAt w r B v bs e) : r < w.heap.size := lt_of_heap h.at'
/-- Other contents. -/
theorem RAt.set {w w' : World} {r B : Nat} {v v' : Value} {bs bs' : List Int} {e e' : Int} (h : RAt w r B v bs e) (hk : Keep (fun i => i = r) w w') (ha : w'.heap[r]? = some (.cells #[v', .int .i64 e'] 80 (0, 0))) (hv : Rd w v' bs') (hb : ∀ q n c, v' = .slice (some q) n c → ∃ q' n' c', v = .slice (some q') n' c' ∧ q.block = q'.block) :
    RAt w' r B v' bs' e' := by
  have hbb : ∀ q n c, v' = .slice (some q) n c → q.block = B ∧ B < w.heap.size ∧ B ≠ r := fun q n c hq => by
    obtain ⟨q', n', c', hv, hq'⟩ := hb q n c hq
    obtain ⟨h1, h2, h3⟩ := h.bb q' n' c' hv
    exact ⟨by rw [hq', h1], h2, h3⟩
  exact ⟨ha, hv.keep hk fun q n c hq => by obtain ⟨h1, _, h3⟩ := hbb q n c hq; rw [h1]; exact h3, fun q n c hq => by obtain ⟨h1, h2, h3⟩ := hbb q n c hq; exact ⟨h1, Nat.lt_of_lt_of_le h2 hk.size, h3⟩⟩

/-- How reading ends: with something, or it gives up. -/
def REnd (w : World) (r B : Nat) (e : Int) (ok : Option (List Int × (Value → World → Prop))) (er : Int) (en : Ending) (w' : World) : Prop :=
  Keep (fun i => i = r) w w' ∧ match ok with
    | some (rest, φ) => ∃ u v', en = .returned u ∧ φ u w' ∧ RAt w' r B v' rest e
    | none => en = .panicked [{ v := .iface 82 (.int .i64 er), recovered := false }] ∧ ∃ v' bs', RAt w' r B v' bs' e

def cTry (ty : Nat) (z : Value) (cl : Nat) : List Vc.Node := [
  .ret [.c1 4],
  .ret [.c1 4],
  .reg (.q (some 16) none (.mov (.tmp 1)) (.q (some 17) none (.ld1 (.tmp 2)) (.l (some 18) none (.callv (.tmp 16) [(.tmp 17)]) [] (.l none none (.st1 (.tmp 4) (.tmp 18)) [] .done)))) false 1 [4],
  .ret [.c1 4],
  .cnd (.tmp 15) 3 2,
  .reg (.q (some 11) none (.ld1 (.tmp 2)) (.q (some 12) none (.nc (.tmp 11)) (.q (some 13) none (.fadr 1 (.tmp 12)) (.q (some 14) none (.ld1 (.tmp 13)) (.q (some 15) none (.bin .neq (.tmp 14) (.const (.int .i64 0))) .done))))) false 4 [1, 2, 4, 15],
  .dfr 10 cl [(.tmp 5), (.tmp 2), (.tmp 4)] 5 [1, 2, 4],
  .reg (.q (some 6) none (.ld1 (.tmp 2)) (.q (some 7) none (.nc (.tmp 6)) (.q (some 8) none (.fadr 0 (.tmp 7)) (.q (some 9) none (.ld1 (.tmp 8)) (.l (some 5) none (.alloc 24 [(1, (.slice none 0 0))]) [] (.l none none (.st1 (.tmp 5) (.tmp 9)) [] .done)))))) false 6 [1, 2, 4, 5],
  .reg (.l (some 2) none (.box 48 (.tmp 0)) [] (.l (some 4) none (.alloc ty [(1, z)]) [] .done)) false 7 [1, 2, 4]]
def cClo (z : Value) : List Vc.Node := [
  .ret [],
  .reg (.q (some 18) none (.ld1 (.tmp 1)) (.q (some 19) none (.ld1 (.tmp 1)) (.q (some 20) none (.ld1 (.tmp 0)) (.q (some 21) none (.mov (.tmp 4)) (.q (some 22) none (.mov (.tmp 6)) (.q (some 23) none (.nc (.tmp 18)) (.q (some 24) none (.fadr 0 (.tmp 23)) (.l none none (.st1 (.tmp 24) (.tmp 20)) [] (.q (some 25) none (.nc (.tmp 19)) (.q (some 26) none (.fadr 1 (.tmp 25)) (.l none none (.st1 (.tmp 26) (.tmp 21)) [] (.l none none (.st1 (.tmp 2) (.tmp 22)) [] .done)))))))))))) false 0 [],
  .reg (.q (some 6) none (.mov (.const z)) .done) false 1 [0, 1, 2, 4, 6],
  .reg (.q (some 17) none (.mov (.tmp 3)) (.l none none (.pan (.tmp 17)) [] .done)) false 2 [0, 1, 2, 4],
  .cnd (.tmp 16) 3 2,
  .reg (.q (some 15) none (.mov (.tmp 5)) (.q (some 16) none (.not (.tmp 15)) .done)) false 4 [0, 1, 2, 3, 4, 16],
  .reg (.q (some 11) none (.mov (.tmp 3)) (.q (some 12) none (.tas 82 .i64 (.tmp 11)) (.q (some 10) none (.mov (.tmp 12)) (.q (some 13) none (.ext 0 (.tmp 10)) (.q (some 14) none (.ext 1 (.tmp 10)) (.q (some 4) none (.mov (.tmp 13)) (.q (some 5) none (.mov (.tmp 14)) .done))))))) false 5 [0, 1, 2, 3, 4, 5],
  .cnd (.tmp 9) 6 0,
  .reg (.q (some 8) none (.mov (.tmp 3)) (.q (some 9) none (.eqI true (.tmp 8) (.const .nilIface)) .done)) false 7 [0, 1, 2, 3, 9],
  .rcv 7 3 8 [0, 1, 2, 3]]

section
variable {cl : Nat} {z : Value} (hD : cfgL Try.prog cl = some (27, 9, (cClo z).map Vc.Node.bare))
include hD
theorem clo_idle (a b c : Value) (w : World) : CallsD Try.prog cl #[a, b, c] .returning w (fun en u' w' => (∃ v, en = .returned v) ∧ u' = .returning ∧ w' = w) := by
  refine callsD_of_cfg hD rfl (Nat.le_of_ble_eq_true rfl) ?_
  simp only [argE_nil, argE_cons, Nat.reduceAdd, Nat.zero_add]
  simp (disch := first | omega | assumption | rfl | (simp only [vcS] <;> omega) | fail) only [↓ptV_l, ↓vcA, vcB, ↓vcD, vcE, ↓reduceIte, Nat.reduceEqDiff, Nat.reduceAdd, Nat.reduceMul, Nat.reduceLeDiff, Int.reduceLE, Int.reduceLT, Int.reduceEq, Int.reduceToNat, Int.reduceAdd, Int.reduceSub, Int.reduceMul, Int.reduceNeg, reduceCtorEq, Option.bind_some, Option.map_some, List.length_cons, List.length_nil, vcM, List.getElem?_toArray, List.getElem?_cons_zero, List.getElem?_cons_succ, rcvM]
  (refine V_at hD rfl (by simp) ?_; refine ⟨_, rfl, ?_⟩; simp (disch := first | omega | assumption | rfl | (simp only [vcS] <;> omega) | fail) only [↓ptV_l, ↓vcA, vcB, ↓vcD, vcE, ↓reduceIte, Nat.reduceEqDiff, Nat.reduceAdd, Nat.reduceMul, Nat.reduceLeDiff, Int.reduceLE, Int.reduceLT, Int.reduceEq, Int.reduceToNat, Int.reduceAdd, Int.reduceSub, Int.reduceMul, Int.reduceNeg, reduceCtorEq, Option.bind_some, Option.map_some, List.length_cons, List.length_nil, vcM, List.getElem?_toArray, List.getElem?_cons_zero, List.getElem?_cons_succ])
  (refine V_at hD rfl (by simp) ?_; refine ⟨_, rfl, ?_⟩; simp (disch := first | omega | assumption | rfl | (simp only [vcS] <;> omega) | fail) only [↓ptV_l, ↓vcA, vcB, ↓vcD, vcE, ↓reduceIte, Nat.reduceEqDiff, Nat.reduceAdd, Nat.reduceMul, Nat.reduceLeDiff, Int.reduceLE, Int.reduceLT, Int.reduceEq, Int.reduceToNat, Int.reduceAdd, Int.reduceSub, Int.reduceMul, Int.reduceNeg, reduceCtorEq, Option.bind_some, Option.map_some, List.length_cons, List.length_nil, vcM, List.getElem?_toArray, List.getElem?_cons_zero, List.getElem?_cons_succ])
  (refine V_at hD rfl (by simp) ?_; refine ⟨_, rfl, ?_⟩; simp (disch := first | omega | assumption | rfl | (simp only [vcS] <;> omega) | fail) only [↓ptV_l, ↓vcA, vcB, ↓vcD, vcE, ↓reduceIte, Nat.reduceEqDiff, Nat.reduceAdd, Nat.reduceMul, Nat.reduceLeDiff, Int.reduceLE, Int.reduceLT, Int.reduceEq, Int.reduceToNat, Int.reduceAdd, Int.reduceSub, Int.reduceMul, Int.reduceNeg, reduceCtorEq, Option.bind_some, Option.map_some, List.length_cons, List.length_nil, vcM, List.getElem?_toArray, List.getElem?_cons_zero, List.getElem?_cons_succ, LV_nil])
  exact ⟨_, rfl⟩
theorem clo_catch (b5 b2 b4 r : Nat) (ty : Nat) (er e : Int) (was v o : Value) (w : World) (h5 : w.heap[b5]? = some (.cells #[was] 24 (0, 0))) (h2 : w.heap[b2]? = some (.cells #[.pointer (some ⟨r, 0, none⟩)] 48 (0, 0)))
    (h4 : w.heap[b4]? = some (.cells #[o] ty (0, 0))) (hr : w.heap[r]? = some (.cells #[v, .int .i64 e] 80 (0, 0))) (hr4 : r ≠ b4) (hw : was.oneCell' = true) (hz : z.oneCell' = true) :
    CallsD Try.prog cl #[.pointer (some ⟨b5, 0, none⟩), .pointer (some ⟨b2, 0, none⟩), .pointer (some ⟨b4, 0, none⟩)] (.panicking [{ v := .iface 82 (.int .i64 er), recovered := false }]) w
      (fun en u' w' => (∃ v, en = .returned v) ∧ settle u' = .returning ∧ w' = ((w.setCell ⟨r, 0, none⟩ was).setCell ⟨r, 1, none⟩ (.int .i64 er)).setCell ⟨b4, 0, none⟩ z) := by
  refine callsD_of_cfg hD rfl (Nat.le_of_ble_eq_true rfl) ?_
  simp only [argE_nil, argE_cons, Nat.reduceAdd, Nat.zero_add]
  simp (disch := first | omega | assumption | rfl | (simp only [vcS] <;> omega) | fail) only [↓ptV_l, ↓vcA, vcB, ↓vcD, vcE, ↓reduceIte, Nat.reduceEqDiff, Nat.reduceAdd, Nat.reduceMul, Nat.reduceLeDiff, Int.reduceLE, Int.reduceLT, Int.reduceEq, Int.reduceToNat, Int.reduceAdd, Int.reduceSub, Int.reduceMul, Int.reduceNeg, reduceCtorEq, Option.bind_some, Option.map_some, List.length_cons, List.length_nil, vcM, List.getElem?_toArray, List.getElem?_cons_zero, List.getElem?_cons_succ, rcvM]
  (refine V_at hD rfl (by simp) ?_; refine ⟨_, rfl, ?_⟩; simp (disch := first | omega | assumption | rfl | (simp only [vcS] <;> omega) | fail) only [↓ptV_l, ↓vcA, vcB, ↓vcD, vcE, ↓reduceIte, Nat.reduceEqDiff, Nat.reduceAdd, Nat.reduceMul, Nat.reduceLeDiff, Int.reduceLE, Int.reduceLT, Int.reduceEq, Int.reduceToNat, Int.reduceAdd, Int.reduceSub, Int.reduceMul, Int.reduceNeg, reduceCtorEq, Option.bind_some, Option.map_some, List.length_cons, List.length_nil, vcM, List.getElem?_toArray, List.getElem?_cons_zero, List.getElem?_cons_succ])
  (refine V_at hD rfl (by simp) ?_; refine ⟨_, rfl, ?_⟩; simp (disch := first | omega | assumption | rfl | (simp only [vcS] <;> omega) | fail) only [↓ptV_l, ↓vcA, vcB, ↓vcD, vcE, ↓reduceIte, Nat.reduceEqDiff, Nat.reduceAdd, Nat.reduceMul, Nat.reduceLeDiff, Int.reduceLE, Int.reduceLT, Int.reduceEq, Int.reduceToNat, Int.reduceAdd, Int.reduceSub, Int.reduceMul, Int.reduceNeg, reduceCtorEq, Option.bind_some, Option.map_some, List.length_cons, List.length_nil, vcM, List.getElem?_toArray, List.getElem?_cons_zero, List.getElem?_cons_succ])
  (refine V_at hD rfl (by simp) ?_; refine ⟨_, rfl, ?_⟩; simp (disch := first | omega | assumption | rfl | (simp only [vcS] <;> omega) | fail) only [↓ptV_l, ↓vcA, vcB, ↓vcD, vcE, ↓reduceIte, Nat.reduceEqDiff, Nat.reduceAdd, Nat.reduceMul, Nat.reduceLeDiff, Int.reduceLE, Int.reduceLT, Int.reduceEq, Int.reduceToNat, Int.reduceAdd, Int.reduceSub, Int.reduceMul, Int.reduceNeg, reduceCtorEq, Option.bind_some, Option.map_some, List.length_cons, List.length_nil, vcM, List.getElem?_toArray, List.getElem?_cons_zero, List.getElem?_cons_succ])
  (refine V_at hD rfl (by simp) ?_; refine ⟨_, rfl, ?_⟩; simp (disch := first | omega | assumption | rfl | (simp only [vcS] <;> omega) | fail) only [↓ptV_l, ↓vcA, vcB, ↓vcD, vcE, ↓reduceIte, Nat.reduceEqDiff, Nat.reduceAdd, Nat.reduceMul, Nat.reduceLeDiff, Int.reduceLE, Int.reduceLT, Int.reduceEq, Int.reduceToNat, Int.reduceAdd, Int.reduceSub, Int.reduceMul, Int.reduceNeg, reduceCtorEq, Option.bind_some, Option.map_some, List.length_cons, List.length_nil, vcM, List.getElem?_toArray, List.getElem?_cons_zero, List.getElem?_cons_succ])
  (refine V_at hD rfl (by simp) ?_; refine ⟨_, rfl, ?_⟩; simp (disch := first | omega | assumption | rfl | (simp only [vcS] <;> omega) | fail) only [↓ptV_l, ↓vcA, vcB, ↓vcD, vcE, ↓reduceIte, Nat.reduceEqDiff, Nat.reduceAdd, Nat.reduceMul, Nat.reduceLeDiff, Int.reduceLE, Int.reduceLT, Int.reduceEq, Int.reduceToNat, Int.reduceAdd, Int.reduceSub, Int.reduceMul, Int.reduceNeg, reduceCtorEq, Option.bind_some, Option.map_some, List.length_cons, List.length_nil, vcM, List.getElem?_toArray, List.getElem?_cons_zero, List.getElem?_cons_succ])
  (refine V_at hD rfl (by simp) ?_; refine ⟨_, rfl, ?_⟩; simp (disch := first | omega | assumption | rfl | (simp only [vcS] <;> omega) | fail) only [↓ptV_l, ↓vcA, vcB, ↓vcD, vcE, ↓reduceIte, Nat.reduceEqDiff, Nat.reduceAdd, Nat.reduceMul, Nat.reduceLeDiff, Int.reduceLE, Int.reduceLT, Int.reduceEq, Int.reduceToNat, Int.reduceAdd, Int.reduceSub, Int.reduceMul, Int.reduceNeg, reduceCtorEq, Option.bind_some, Option.map_some, List.length_cons, List.length_nil, vcM, List.getElem?_toArray, List.getElem?_cons_zero, List.getElem?_cons_succ])
  have hr1 : (w.setCell ⟨r, 0, none⟩ was).heap[r]? = some (.cells #[was, .int .i64 e] 80 (0, 0)) := by rw [heap_setCell_eq hr]; rfl
  have h41 : ((w.setCell ⟨r, 0, none⟩ was).setCell ⟨r, 1, none⟩ (.int .i64 er)).heap[b4]? = some (.cells #[o] ty (0, 0)) := by rw [heap_setCell_ne _ _ _ _ _ _ (Ne.symm hr4), heap_setCell_ne _ _ _ _ _ _ (Ne.symm hr4)]; exact h4
  have g1 : wr1 w r 0 := wr1_of hr (by simp)
  have g2 : wr1 (w.setCell ⟨r, 0, none⟩ was) r 1 := wr1_of hr1 (by simp)
  have g3 : wr1 ((w.setCell ⟨r, 0, none⟩ was).setCell ⟨r, 1, none⟩ (.int .i64 er)) b4 0 := wr1_of h41 (by simp)
  (refine V_at hD rfl (by simp) ?_; refine ⟨_, rfl, ?_⟩; simp (disch := first | omega | assumption | rfl | (simp only [vcS] <;> omega) | fail) only [↓ptV_l, ↓vcA, vcB, ↓vcD, vcE, ↓reduceIte, Nat.reduceEqDiff, Nat.reduceAdd, Nat.reduceMul, Nat.reduceLeDiff, Int.reduceLE, Int.reduceLT, Int.reduceEq, Int.reduceToNat, Int.reduceAdd, Int.reduceSub, Int.reduceMul, Int.reduceNeg, reduceCtorEq, Option.bind_some, Option.map_some, List.length_cons, List.length_nil, vcM, List.getElem?_toArray, List.getElem?_cons_zero, List.getElem?_cons_succ, h2, h5, hw, hz, g1, g2, g3])
  (refine V_at hD rfl (by simp) ?_; refine ⟨_, rfl, ?_⟩; simp (disch := first | omega | assumption | rfl | (simp only [vcS] <;> omega) | fail) only [↓ptV_l, ↓vcA, vcB, ↓vcD, vcE, ↓reduceIte, Nat.reduceEqDiff, Nat.reduceAdd, Nat.reduceMul, Nat.reduceLeDiff, Int.reduceLE, Int.reduceLT, Int.reduceEq, Int.reduceToNat, Int.reduceAdd, Int.reduceSub, Int.reduceMul, Int.reduceNeg, reduceCtorEq, Option.bind_some, Option.map_some, List.length_cons, List.length_nil, vcM, List.getElem?_toArray, List.getElem?_cons_zero, List.getElem?_cons_succ, LV_nil])
  exact ⟨⟨_, rfl⟩, rfl⟩
end

/-- 'try': what reads is called; where that gives up, nothing was read. -/
theorem try_gen {f cl ty : Nat} {z : Value} (hC : cfgL Try.prog f = some (19, 8, (cTry ty z cl).map Vc.Node.bare)) (hD : cfgL Try.prog cl = some (27, 9, (cClo z).map Vc.Node.bare)) (hpc : plainF Try.prog cl = true) (hz : z.oneCell' = true) (hty : ty ≠ 80)
    (w : World) (g : Nat) (cap : Array Value) (hpg : plainF Try.prog g = true) (r B : Nat) (v : Value) (bs : List Int) (e : Int) (h : RAt w r B v bs e) (hBw : B < w.heap.size) (ok : Option (List Int × (Value → World → Prop))) (er : Int)
    (hread : e = 0 → ∀ w1, Ext w w1 → Calls Try.prog g (#[.pointer (some ⟨r, 0, none⟩)] ++ cap) w1 (REnd w1 r B 0 ok er))
    (hφ1 : ∀ rest φ, ok = some (rest, φ) → ∀ u w', φ u w' → u.oneCell' = true)
    (hφ2 : ∀ rest φ, ok = some (rest, φ) → ∀ u w' w'' p c, w.heap.size ≤ p → w'.heap[p]? = some (.cells c ty (0, 0)) → Keep (fun i => i = p) w' w'' → φ u w' → φ u w'')
    (Q : Value → World → Prop) (q0 : e ≠ 0 → ∀ w', Ext w w' → RAt w' r B v bs e → Q z w') (q1 : e = 0 → ∀ rest φ, ok = some (rest, φ) → ∀ u w' v', Keep (fun i => i = r) w w' → φ u w' → RAt w' r B v' rest 0 → Q u w')
    (q2 : e = 0 → ok = none → ∀ w', Keep (fun i => i = r) w w' → RAt w' r B v bs er → Q z w') :
    Calls Try.prog f #[.pointer (some ⟨r, 0, none⟩), .func (.func g) #[] cap] w (Ret Q) := by
  refine calls_of_cfgD hC (Nat.le_of_ble_eq_true rfl) ?_
  simp only [argE_nil, argE_cons, Nat.reduceAdd, Nat.zero_add]
  have hz1 : zc [(1, z)] = #[z] := rfl
  have hat := h.at'
  have hlt := h.lt
  have hv1 := h.rd.one
  (refine V_at hC rfl (by simp) ?_; refine ⟨_, rfl, ?_⟩; simp (disch := first | omega | assumption | rfl | (simp only [vcS] <;> omega) | fail) only [↓ptV_l, ↓vcA, vcB, ↓vcD, vcE, ↓reduceIte, Nat.reduceEqDiff, Nat.reduceAdd, Nat.reduceMul, Nat.reduceLeDiff, Int.reduceLE, Int.reduceLT, Int.reduceEq, Int.reduceToNat, Int.reduceAdd, Int.reduceSub, Int.reduceMul, Int.reduceNeg, reduceCtorEq, Option.bind_some, Option.map_some, List.length_cons, List.length_nil, vcM, List.getElem?_toArray, List.getElem?_cons_zero, List.getElem?_cons_succ, hz1])
  have h2 : ((w.alloc (Obj.cells #[Value.pointer (some ⟨r, 0, none⟩)] 48)).alloc (Obj.cells #[z] ty)).heap[w.heap.size]? = some (.cells #[.pointer (some ⟨r, 0, none⟩)] 48 (0, 0)) := by simp (disch := first | omega | assumption | rfl | (simp only [vcS] <;> omega) | fail) only [↓ptV_l, ↓vcA, vcB, ↓vcD, vcE, ↓reduceIte, Nat.reduceEqDiff, Nat.reduceAdd, Nat.reduceMul, Nat.reduceLeDiff, Int.reduceLE, Int.reduceLT, Int.reduceEq, Int.reduceToNat, Int.reduceAdd, Int.reduceSub, Int.reduceMul, Int.reduceNeg, reduceCtorEq, Option.bind_some, Option.map_some, List.length_cons, List.length_nil, vcM, List.getElem?_toArray, List.getElem?_cons_zero, List.getElem?_cons_succ]
  have h4 : ((w.alloc (Obj.cells #[Value.pointer (some ⟨r, 0, none⟩)] 48)).alloc (Obj.cells #[z] ty)).heap[w.heap.size + 1]? = some (.cells #[z] ty (0, 0)) := by simp (disch := first | omega | assumption | rfl | (simp only [vcS] <;> omega) | fail) only [↓ptV_l, ↓vcA, vcB, ↓vcD, vcE, ↓reduceIte, Nat.reduceEqDiff, Nat.reduceAdd, Nat.reduceMul, Nat.reduceLeDiff, Int.reduceLE, Int.reduceLT, Int.reduceEq, Int.reduceToNat, Int.reduceAdd, Int.reduceSub, Int.reduceMul, Int.reduceNeg, reduceCtorEq, Option.bind_some, Option.map_some, List.length_cons, List.length_nil, vcM, List.getElem?_toArray, List.getElem?_cons_zero, List.getElem?_cons_succ]
  have hE1 : Ext w ((w.alloc (Obj.cells #[Value.pointer (some ⟨r, 0, none⟩)] 48)).alloc (Obj.cells #[z] ty)) := by (repeat' first | exact Keep.refl _ _ | assumption | refine Keep.drew ?_ | refine Keep.alloc ?_ _ | refine Keep.putN ?_ _ ?_ | refine Keep.setCell ?_ _ ?_ | refine Keep.setO ?_ _ ?_ | exact fun _ => Or.inl rfl | exact fun _ => Or.inr rfl | exact fun _ => rfl | (intro hh; exfalso; ((try simp only [vcS] at hh) <;> omega)))
  have hs1 : ((w.alloc (Obj.cells #[Value.pointer (some ⟨r, 0, none⟩)] 48)).alloc (Obj.cells #[z] ty)).heap.size = w.heap.size + 2 := by simp only [size_alloc]
  generalize World.alloc (World.alloc _ _) _ = w1 at h2 h4 hE1 hs1 ⊢
  generalize hb2 : w.heap.size = b2 at h2 h4 hs1 ⊢
  have hat1 := hE1.at hat fun h => h
  (refine V_at hC rfl (by simp) ?_; refine ⟨_, rfl, ?_⟩; simp (disch := first | omega | assumption | rfl | (simp only [vcS] <;> omega) | fail) only [↓ptV_l, ↓vcA, vcB, ↓vcD, vcE, ↓reduceIte, Nat.reduceEqDiff, Nat.reduceAdd, Nat.reduceMul, Nat.reduceLeDiff, Int.reduceLE, Int.reduceLT, Int.reduceEq, Int.reduceToNat, Int.reduceAdd, Int.reduceSub, Int.reduceMul, Int.reduceNeg, reduceCtorEq, Option.bind_some, Option.map_some, List.length_cons, List.length_nil, vcM, List.getElem?_toArray, List.getElem?_cons_zero, List.getElem?_cons_succ, h2, hat1])
  have h5 : (w1.alloc (Obj.cells (zc [(1, .slice none 0 0)]) 24)).heap[w1.heap.size]? = some (.cells #[.slice none 0 0] 24 (0, 0)) := heap_new _ _ _ rfl
  refine ⟨hv1, wr1_of h5 (by simp), ?_⟩
  have h5' : ((w1.alloc (Obj.cells (zc [(1, .slice none 0 0)]) 24)).setCell ⟨w1.heap.size, 0, none⟩ v).heap[w1.heap.size]? = some (.cells #[v] 24 (0, 0)) := by rw [heap_setCell_eq h5]; rfl
  have hE2 : Ext w1 ((w1.alloc (Obj.cells (zc [(1, .slice none 0 0)]) 24)).setCell ⟨w1.heap.size, 0, none⟩ v) := by (repeat' first | exact Keep.refl _ _ | assumption | refine Keep.drew ?_ | refine Keep.alloc ?_ _ | refine Keep.putN ?_ _ ?_ | refine Keep.setCell ?_ _ ?_ | refine Keep.setO ?_ _ ?_ | exact fun _ => Or.inl rfl | exact fun _ => Or.inr rfl | exact fun _ => rfl | (intro hh; exfalso; ((try simp only [vcS] at hh) <;> omega)))
  have hb5 : b2 + 2 = w1.heap.size := hs1.symm
  generalize World.setCell _ _ _ = w2 at h5' hE2 ⊢
  generalize w1.heap.size = b5 at h5' hb5 ⊢
  have hE02 := hE1.ext hE2
  have h2' := hE2.at h2 fun h => h
  have h4' := hE2.at h4 fun h => h
  have hat2 := hE02.at hat fun h => h
  have hR2 := h.ext hE02
  have hrb4 : r ≠ b2 + 1 := by omega
  (refine V_at hC rfl (by simp) ?_; refine ⟨_, rfl, ?_⟩; simp (disch := first | omega | assumption | rfl | (simp only [vcS] <;> omega) | fail) only [↓ptV_l, ↓vcA, vcB, ↓vcD, vcE, ↓reduceIte, Nat.reduceEqDiff, Nat.reduceAdd, Nat.reduceMul, Nat.reduceLeDiff, Int.reduceLE, Int.reduceLT, Int.reduceEq, Int.reduceToNat, Int.reduceAdd, Int.reduceSub, Int.reduceMul, Int.reduceNeg, reduceCtorEq, Option.bind_some, Option.map_some, List.length_cons, List.length_nil, vcM, List.getElem?_toArray, List.getElem?_cons_zero, List.getElem?_cons_succ])
  (refine V_at hC rfl (by simp) ?_; refine ⟨_, rfl, ?_⟩; simp (disch := first | omega | assumption | rfl | (simp only [vcS] <;> omega) | fail) only [↓ptV_l, ↓vcA, vcB, ↓vcD, vcE, ↓reduceIte, Nat.reduceEqDiff, Nat.reduceAdd, Nat.reduceMul, Nat.reduceLeDiff, Int.reduceLE, Int.reduceLT, Int.reduceEq, Int.reduceToNat, Int.reduceAdd, Int.reduceSub, Int.reduceMul, Int.reduceNeg, reduceCtorEq, Option.bind_some, Option.map_some, List.length_cons, List.length_nil, vcM, List.getElem?_toArray, List.getElem?_cons_zero, List.getElem?_cons_succ, h2', hat2])
  by_cases he : e = 0
  · subst he
    (refine V_at hC rfl (by simp) ?_; refine ⟨_, rfl, ?_⟩; simp (disch := first | omega | assumption | rfl | (simp only [vcS] <;> omega) | fail) only [↓ptV_l, ↓vcA, vcB, ↓vcD, vcE, ↓reduceIte, Nat.reduceEqDiff, Nat.reduceAdd, Nat.reduceMul, Nat.reduceLeDiff, Int.reduceLE, Int.reduceLT, Int.reduceEq, Int.reduceToNat, Int.reduceAdd, Int.reduceSub, Int.reduceMul, Int.reduceNeg, reduceCtorEq, Option.bind_some, Option.map_some, List.length_cons, List.length_nil, vcM, List.getElem?_toArray, List.getElem?_cons_zero, List.getElem?_cons_succ])
    (refine V_at hC rfl (by simp) ?_; refine ⟨_, rfl, ?_⟩; simp (disch := first | omega | assumption | rfl | (simp only [vcS] <;> omega) | fail) only [↓ptV_l, ↓vcA, vcB, ↓vcD, vcE, ↓reduceIte, Nat.reduceEqDiff, Nat.reduceAdd, Nat.reduceMul, Nat.reduceLeDiff, Int.reduceLE, Int.reduceLT, Int.reduceEq, Int.reduceToNat, Int.reduceAdd, Int.reduceSub, Int.reduceMul, Int.reduceNeg, reduceCtorEq, Option.bind_some, Option.map_some, List.length_cons, List.length_nil, vcM, List.getElem?_toArray, List.getElem?_cons_zero, List.getElem?_cons_succ, h2'])
    refine ⟨hpg, ?_⟩
    have hcall := hread rfl w2 hE02
    unfold callV
    have ea : (([] : List Value) ++ [Value.pointer (some ⟨r, 0, none⟩)] ++ cap.toList).toArray = #[Value.pointer (some ⟨r, 0, none⟩)] ++ cap := by apply Array.ext'; simp
    rw [ea]
    refine Calls.mono hcall fun en w3 hR => ?_
    obtain ⟨hk, hm⟩ := hR
    have h23 := hk.at h2' (by show ¬ b2 = r; omega)
    have h43 := hk.at h4' (by show ¬ b2 + 1 = r; omega)
    have h53 := hk.at h5' (by show ¬ b5 = r; omega)
    have hk03 : Keep (fun i => i = r) w w3 := (hE02.mono fun _ h => h.elim).trans hk fun _ _ h => h
    cases hok : ok with
    | some p =>
      obtain ⟨rest, φ⟩ := p
      rw [hok] at hm
      obtain ⟨u, v', rfl, hu, hR3⟩ := hm
      refine ⟨hφ1 rest φ hok u w3 hu, wr1_of h43 (by simp), ?_⟩
      have h44 : (w3.setCell ⟨b2 + 1, 0, none⟩ u).heap[b2 + 1]? = some (.cells #[u] ty (0, 0)) := by rw [heap_setCell_eq h43]; rfl
      have hk4 : Keep (fun i => i = b2 + 1) w3 (w3.setCell ⟨b2 + 1, 0, none⟩ u) := (Keep.refl _ w3).setCell _ fun _ => rfl
      have hu4 := hφ2 rest φ hok u w3 _ (b2 + 1) _ (by omega) h43 hk4 hu
      have hk04 := hk03.trans hk4 (T := fun i => i = b2 + 1) fun i hi (e : i = b2 + 1) => by omega
      have hR4 : RAt (w3.setCell ⟨b2 + 1, 0, none⟩ u) r B v' rest 0 := by
        exact hR3.keep hk4 hrb4 fun _ (e : B = b2 + 1) => by omega
      generalize World.setCell _ _ _ = w4 at h44 hu4 hk04 hR4 ⊢
      (refine V_at hC rfl (by simp) ?_; refine ⟨_, rfl, ?_⟩; simp (disch := first | omega | assumption | rfl | (simp only [vcS] <;> omega) | fail) only [↓ptV_l, ↓vcA, vcB, ↓vcD, vcE, ↓reduceIte, Nat.reduceEqDiff, Nat.reduceAdd, Nat.reduceMul, Nat.reduceLeDiff, Int.reduceLE, Int.reduceLT, Int.reduceEq, Int.reduceToNat, Int.reduceAdd, Int.reduceSub, Int.reduceMul, Int.reduceNeg, reduceCtorEq, Option.bind_some, Option.map_some, List.length_cons, List.length_nil, vcM, List.getElem?_toArray, List.getElem?_cons_zero, List.getElem?_cons_succ])
      refine LV_cons hpc (by simp) (clo_idle hD _ _ _ w4) ?_
      rintro en u' w5 ⟨hv, rfl, rfl⟩
      refine ⟨hv.choose, hv.choose_spec, ?_⟩
      simp (disch := first | omega | assumption | rfl | (simp only [vcS] <;> omega) | fail) only [↓ptV_l, ↓vcA, vcB, ↓vcD, vcE, ↓reduceIte, Nat.reduceEqDiff, Nat.reduceAdd, Nat.reduceMul, Nat.reduceLeDiff, Int.reduceLE, Int.reduceLT, Int.reduceEq, Int.reduceToNat, Int.reduceAdd, Int.reduceSub, Int.reduceMul, Int.reduceNeg, reduceCtorEq, Option.bind_some, Option.map_some, List.length_cons, List.length_nil, vcM, List.getElem?_toArray, List.getElem?_cons_zero, List.getElem?_cons_succ, settle, LV_nil, h44, Ret_returned]
      exact q1 rfl rest φ hok _ _ v' hk04 hu4 hR4
    | none =>
      rw [hok] at hm
      obtain ⟨rfl, v', bs', hR3⟩ := hm
      refine ⟨rfl, ?_, ?_⟩
      · intro rr hrr; simp at hrr; subst hrr; simp [rvSlot, dstsPT]
      · refine LV_cons hpc (by simp) (clo_catch hD b5 b2 (b2 + 1) r ty er 0 v v' z w3 h53 h23 h43 hR3.at' hrb4 hv1 hz) ?_
        rintro en u' w5 ⟨hv, hse, rfl⟩
        refine ⟨hv.choose, hv.choose_spec, ?_⟩
        rw [hse]
        have hw3 : w3.heap[r]? = some (.cells #[v', .int .i64 0] 80 (0, 0)) := hR3.at'
        have hr1 : (w3.setCell ⟨r, 0, none⟩ v).heap[r]? = some (.cells #[v, .int .i64 0] 80 (0, 0)) := by rw [heap_setCell_eq hw3]; rfl
        have hr2 : ((w3.setCell ⟨r, 0, none⟩ v).setCell ⟨r, 1, none⟩ (.int .i64 er)).heap[r]? = some (.cells #[v, .int .i64 er] 80 (0, 0)) := by rw [heap_setCell_eq hr1]; rfl
        have hr3 : (((w3.setCell ⟨r, 0, none⟩ v).setCell ⟨r, 1, none⟩ (.int .i64 er)).setCell ⟨b2 + 1, 0, none⟩ z).heap[r]? = some (.cells #[v, .int .i64 er] 80 (0, 0)) := by rw [heap_setCell_ne _ _ _ _ _ _ hrb4]; exact hr2
        have h41 : ((w3.setCell ⟨r, 0, none⟩ v).setCell ⟨r, 1, none⟩ (.int .i64 er)).heap[b2 + 1]? = some (.cells #[z] ty (0, 0)) := by rw [heap_setCell_ne _ _ _ _ _ _ (Ne.symm hrb4), heap_setCell_ne _ _ _ _ _ _ (Ne.symm hrb4)]; exact h43
        have h44 : (((w3.setCell ⟨r, 0, none⟩ v).setCell ⟨r, 1, none⟩ (.int .i64 er)).setCell ⟨b2 + 1, 0, none⟩ z).heap[b2 + 1]? = some (.cells #[z] ty (0, 0)) := by rw [heap_setCell_eq h41]; rfl
        have hk5 : Keep (fun i => i = r) w (((w3.setCell ⟨r, 0, none⟩ v).setCell ⟨r, 1, none⟩ (.int .i64 er)).setCell ⟨b2 + 1, 0, none⟩ z) :=
          ((hk03.setCell v fun _ => rfl).setCell (.int .i64 er) fun _ => rfl).setCell z fun hlt => by omega
        generalize World.setCell _ _ _ = w4 at hr3 h44 hk5 ⊢
        simp (disch := first | omega | assumption | rfl | (simp only [vcS] <;> omega) | fail) only [↓ptV_l, ↓vcA, vcB, ↓vcD, vcE, ↓reduceIte, Nat.reduceEqDiff, Nat.reduceAdd, Nat.reduceMul, Nat.reduceLeDiff, Int.reduceLE, Int.reduceLT, Int.reduceEq, Int.reduceToNat, Int.reduceAdd, Int.reduceSub, Int.reduceMul, Int.reduceNeg, reduceCtorEq, Option.bind_some, Option.map_some, List.length_cons, List.length_nil, vcM, List.getElem?_toArray, List.getElem?_cons_zero, List.getElem?_cons_succ, LV_nil, h44, Ret_returned]
        exact q2 rfl hok _ hk5 (h.set hk5 hr3 h.rd fun q n c hq => ⟨q, n, c, hq, rfl⟩)
  · (refine V_at hC rfl (by simp) ?_; refine ⟨_, rfl, ?_⟩; simp (disch := first | omega | assumption | rfl | (simp only [vcS] <;> omega) | fail) only [↓ptV_l, ↓vcA, vcB, ↓vcD, vcE, ↓reduceIte, Nat.reduceEqDiff, Nat.reduceAdd, Nat.reduceMul, Nat.reduceLeDiff, Int.reduceLE, Int.reduceLT, Int.reduceEq, Int.reduceToNat, Int.reduceAdd, Int.reduceSub, Int.reduceMul, Int.reduceNeg, reduceCtorEq, Option.bind_some, Option.map_some, List.length_cons, List.length_nil, vcM, List.getElem?_toArray, List.getElem?_cons_zero, List.getElem?_cons_succ, he])
    (refine V_at hC rfl (by simp) ?_; refine ⟨_, rfl, ?_⟩; simp (disch := first | omega | assumption | rfl | (simp only [vcS] <;> omega) | fail) only [↓ptV_l, ↓vcA, vcB, ↓vcD, vcE, ↓reduceIte, Nat.reduceEqDiff, Nat.reduceAdd, Nat.reduceMul, Nat.reduceLeDiff, Int.reduceLE, Int.reduceLT, Int.reduceEq, Int.reduceToNat, Int.reduceAdd, Int.reduceSub, Int.reduceMul, Int.reduceNeg, reduceCtorEq, Option.bind_some, Option.map_some, List.length_cons, List.length_nil, vcM, List.getElem?_toArray, List.getElem?_cons_zero, List.getElem?_cons_succ])
    refine LV_cons hpc (by simp) (clo_idle hD _ _ _ w2) ?_
    rintro en u' w5 ⟨hv, rfl, rfl⟩
    refine ⟨hv.choose, hv.choose_spec, ?_⟩
    simp (disch := first | omega | assumption | rfl | (simp only [vcS] <;> omega) | fail) only [↓ptV_l, ↓vcA, vcB, ↓vcD, vcE, ↓reduceIte, Nat.reduceEqDiff, Nat.reduceAdd, Nat.reduceMul, Nat.reduceLeDiff, Int.reduceLE, Int.reduceLT, Int.reduceEq, Int.reduceToNat, Int.reduceAdd, Int.reduceSub, Int.reduceMul, Int.reduceNeg, reduceCtorEq, Option.bind_some, Option.map_some, List.length_cons, List.length_nil, vcM, List.getElem?_toArray, List.getElem?_cons_zero, List.getElem?_cons_succ, settle, LV_nil, h4', Ret_returned]
    exact q0 he _ hE02 hR2
end Go.Proofs
