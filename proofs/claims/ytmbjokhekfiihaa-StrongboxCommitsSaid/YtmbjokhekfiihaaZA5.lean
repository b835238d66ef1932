/- 'strongboxtop.StrongboxCommits' returns true for every input, and the input reads as it did. No condition. -/
import Derived.Test.YtmbjokhekfiihaaZA4
import Derived.Test.YtmbjokhekfiihaaRows
set_option linter.unusedSimpArgs false
set_option linter.unusedVariables false
set_option linter.constructorNameAsVariable false
namespace Go.Proofs
open Go.Vc
set_option maxRecDepth 10000

def wyC (i kind : Int) (sx : Value) (value : Int) : Array Value := #[.int .i64 i, .int .u8 kind, sx, .int .i64 value]
theorem txC_flat {t : TxV} {iv ov : Value} {w : World} (hT : TxR w iv ov t) : flat (txC t iv ov) := by
  have hi1 := ListR.one hT.ins
  have ho1 := ListR.one hT.outs
  intro y hy; simp only [txC, List.mem_toArray, List.mem_cons, List.not_mem_nil, or_false] at hy; rcases hy with rfl | rfl | rfl | rfl <;> first | rfl | assumption
theorem wyC_flat {i kind value : Int} {sx : Value} (h : sx.oneCell' = true) : flat (wyC i kind sx value) := by
  intro y hy; simp only [wyC, List.mem_toArray, List.mem_cons, List.not_mem_nil, or_false] at hy; rcases hy with rfl | rfl | rfl | rfl <;> first | rfl | assumption
/-- The arguments. -/
theorem tx_arg {W : World} {v : Value} (h : ArgLiesB bzT Try.prog W 26 v) : ∃ t iv ov, v = .agg (txC t iv ov) ∧ TxR W iv ov t ∧ t.Ok ∧ t.Sz := by
  obtain ⟨cs, rfl, _⟩ := argAgg ty_tx (.inl ⟨_, Try.underlying26⟩) h.1
  obtain ⟨t, iv, ov, e, h1, h2, h3⟩ := tx_of (h.2 6 txT bz_tx ty_tx)
  exact ⟨t, iv, ov, congrArg Value.agg e, h1, h2, h3⟩
def wayT : Tys := .cons (.int .i64) (.cons (.int .u8) (.cons (.sl u8T) (.cons (.int .i64) .nil)))
theorem way_arg {W : World} {v : Value} (h : ArgLiesB bzT Try.prog W 29 v) : ∃ i kind sx value bs, v = .agg (wyC i kind sx value) ∧ (-9223372036854775808 ≤ i ∧ i ≤ 9223372036854775807) ∧ (0 ≤ kind ∧ kind ≤ 255) ∧ Rd W sx bs ∧ byt bs ∧ (-9223372036854775808 ≤ value ∧ value ≤ 9223372036854775807) := by
  obtain ⟨cs, rfl, hl⟩ := argAgg (m := 6) (a := wayT) (by kernel_rfl) (.inl ⟨_, Try.underlying29⟩) h.1
  unfold wayT at hl
  cases e : cs.toList with
  | nil => rw [e] at hl; simp only [LiesAll] at hl
  | cons v1 b =>
  rw [e] at hl
  simp only [LiesAll] at hl
  obtain ⟨k1, h2⟩ := hl
  cases b with
  | nil => simp only [LiesAll] at h2
  | cons v2 b =>
  simp only [LiesAll] at h2
  obtain ⟨k2, h2⟩ := h2
  cases b with
  | nil => simp only [LiesAll] at h2
  | cons v3 b =>
  simp only [LiesAll] at h2
  obtain ⟨k3, h2⟩ := h2
  cases b with
  | nil => simp only [LiesAll] at h2
  | cons v4 b =>
  simp only [LiesAll] at h2
  obtain ⟨k4, rfl⟩ := h2
  simp only [Lies] at k1 k2 k4
  obtain ⟨i, rfl, hi⟩ := k1
  obtain ⟨kind, rfl, hk⟩ := k2
  obtain ⟨value, rfl, hv⟩ := k4
  obtain ⟨bs, hr, hb⟩ := bytes_of k3
  have a1 := wf_int hi
  have a2 := wf_int hk
  have a3 := wf_int hv
  have e1 : IntKind.i64.min = -9223372036854775808 := by decide
  have e2 : IntKind.i64.max = 9223372036854775807 := by decide
  have e3 : IntKind.u8.min = 0 := by decide
  have e4 : IntKind.u8.max = 255 := by decide
  refine ⟨i, kind, v3, value, bs, ?_, by omega, by omega, hr, hb, by omega⟩
  congr 1
  apply Array.ext'
  rw [e]; rfl
theorem put_tx {wj : World} {t : TxV} {iv ov : Value} :
    Ext wj ((wj.alloc (.cells (zc [(1, .int .i32 0), (2, .slice none 0 0), (1, .int .u32 0)]) 26)).putN wj.heap.size 0 (txC t iv ov)) ∧ ((wj.alloc (.cells (zc [(1, .int .i32 0), (2, .slice none 0 0), (1, .int .u32 0)]) 26)).putN wj.heap.size 0 (txC t iv ov)).heap[wj.heap.size]? = some (.cells (txC t iv ov) 26 (0, 0)) :=
  ⟨((Keep.refl _ wj).alloc _).putN _ (by intro hh; exfalso; omega), by rw [heap_putN_eq (heap_new _ _ _ rfl), splice_all (by rw [txC_sz]; rfl)]⟩
set_option maxHeartbeats 3200000 in
theorem commits_ok (w : World) (iv ov : Value) (t : TxV) (hT : TxR w iv ov t) (hok : t.Ok) (hsz : t.Sz) (i : Int) (hi64 : -9223372036854775808 ≤ i ∧ i ≤ 9223372036854775807) (kind : Int) (sx : Value) (bs : List Int) (hx : Rd w sx bs) (hb : byt bs) (value : Int) :
    Calls Try.prog 4 #[.agg (txC t iv ov), .agg (wyC i kind sx value)] w (Ret fun u w' => u = .bool true ∧ Ext w w') := by
  refine calls_of_cfg c4_ok (Nat.le_of_ble_eq_true rfl) ?_
  simp only [argE_nil, argE_cons, Nat.reduceAdd, Nat.zero_add]
  have hfx := txC_flat hT
  have hcx : (Value.agg (txC t iv ov)).cells = txC t iv ov := rfl
  have hzx := txC_sz t iv ov
  have hfy := wyC_flat (i := i) (kind := kind) (value := value) hx.one
  have hcy : (Value.agg (wyC i kind sx value)).cells = wyC i kind sx value := rfl
  have hzy : (wyC i kind sx value).size = 4 := rfl
  (refine W_at c4_ok ?_; refine ⟨_, rfl, ?_⟩; simp (disch := first | omega | assumption | rfl | (simp only [vcS] <;> omega) | fail) only [↓ptV_l, ↓vcA, vcB, ↓vcD, vcE, ↓reduceIte, Nat.reduceEqDiff, Nat.reduceAdd, Nat.reduceMul, Nat.reduceLeDiff, Int.reduceLE, Int.reduceLT, Int.reduceEq, Int.reduceToNat, Int.reduceAdd, Int.reduceSub, Int.reduceMul, Int.reduceNeg, reduceCtorEq, Option.bind_some, Option.map_some, List.length_cons, List.length_nil, vcM, List.getElem?_toArray, List.getElem?_cons_zero, List.getElem?_cons_succ, hfx, hcx, hzx, hfy, hcy, hzy])
  have hE1 : Ext w (w.alloc (.cells (txC t iv ov) 26)) := (Keep.refl _ w).alloc _
  have c2 : (w.alloc (.cells (txC t iv ov) 26)).heap[w.heap.size]? = some (.cells (txC t iv ov) 26 (0, 0)) := heap_new _ _ _ rfl
  have s1 : (w.alloc (.cells (txC t iv ov) 26)).heap.size = w.heap.size + 1 := size_alloc _ _
  generalize World.alloc w _ = w1 at hE1 c2 s1 ⊢
  have hE2 : Ext w1 (w1.alloc (.cells (wyC i kind sx value) 29)) := (Keep.refl _ w1).alloc _
  have c3 : (w1.alloc (.cells (wyC i kind sx value) 29)).heap[w.heap.size + 1]? = some (.cells (wyC i kind sx value) 29 (0, 0)) := heap_new _ _ _ s1.symm
  generalize World.alloc w1 _ = w2 at hE2 c3 ⊢
  have c22 := hE2.at c2 (fun h => h)
  have hE02 := hE1.ext hE2
  generalize w.heap.size + 1 = p3 at c3 ⊢
  generalize hp2 : w.heap.size = p2 at c22 c2 ⊢
  have y0 : (wyC i kind sx value)[0]? = some (.int .i64 i) := rfl
  have y2 : (wyC i kind sx value)[2]? = some sx := rfl
  have y3 : (wyC i kind sx value)[3]? = some (.int .i64 value) := rfl
  have hEd : Ext w2 w2.drew := (Keep.refl _ w2).drew
  have c3d := hEd.at c3 (fun h => h)
  have c2d := hEd.at c22 (fun h => h)
  (refine W_at c4_ok ?_; refine ⟨_, rfl, ?_⟩; simp (disch := first | omega | assumption | rfl | (simp only [vcS] <;> omega) | fail) only [↓ptV_l, ↓vcA, vcB, ↓vcD, vcE, ↓reduceIte, Nat.reduceEqDiff, Nat.reduceAdd, Nat.reduceMul, Nat.reduceLeDiff, Int.reduceLE, Int.reduceLT, Int.reduceEq, Int.reduceToNat, Int.reduceAdd, Int.reduceSub, Int.reduceMul, Int.reduceNeg, reduceCtorEq, Option.bind_some, Option.map_some, List.length_cons, List.length_nil, vcM, List.getElem?_toArray, List.getElem?_cons_zero, List.getElem?_cons_succ, c3, y0, y2, y3])
  generalize World.drew w2 = w3 at hEd c3d c2d ⊢
  have hE03 := hE02.ext hEd
  have r4 : rdO (some (.cells (txC t iv ov) 26 (0, 0))) 0 4 = some (txC t iv ov) := rdO_all _ _ _ _ rfl
  (refine W_at c4_ok ?_; refine ⟨_, rfl, ?_⟩; simp (disch := first | omega | assumption | rfl | (simp only [vcS] <;> omega) | fail) only [↓ptV_l, ↓vcA, vcB, ↓vcD, vcE, ↓reduceIte, Nat.reduceEqDiff, Nat.reduceAdd, Nat.reduceMul, Nat.reduceLeDiff, Int.reduceLE, Int.reduceLT, Int.reduceEq, Int.reduceToNat, Int.reduceAdd, Int.reduceSub, Int.reduceMul, Int.reduceNeg, reduceCtorEq, Option.bind_some, Option.map_some, List.length_cons, List.length_nil, vcM, List.getElem?_toArray, List.getElem?_cons_zero, List.getElem?_cons_succ, c2d, r4])
  refine callV_ret (few_ok w3 iv ov t 4 100 (hT.ext hE03) hok hsz (by omega) (by omega)) ?_
  rintro _ w4 ⟨t', iv', ov', rfl, hT4, hok4, hsz4, hL4, hE4⟩
  have c24 := hE4.at c2d (fun h => h)
  have hzt := txC_sz t' iv' ov'
  have o4 : okO (some (.cells (txC t iv ov) 26 (0, 0))) 0 4 = True := by simp only [okO, hzx]; simp
  first | (simp (disch := first | omega | assumption | rfl | (simp only [vcS] <;> omega) | fail) only [↓ptV_l, ↓vcA, vcB, ↓vcD, vcE, ↓reduceIte, Nat.reduceEqDiff, Nat.reduceAdd, Nat.reduceMul, Nat.reduceLeDiff, Int.reduceLE, Int.reduceLT, Int.reduceEq, Int.reduceToNat, Int.reduceAdd, Int.reduceSub, Int.reduceMul, Int.reduceNeg, reduceCtorEq, Option.bind_some, Option.map_some, List.length_cons, List.length_nil, vcM, List.getElem?_toArray, List.getElem?_cons_zero, List.getElem?_cons_succ, c24, hzt, o4]) | skip
  refine ⟨txC_flat hT4.r, ?_⟩
  have hk5 : Keep (fun g => g = p2) w4 (w4.putN p2 0 (txC t' iv' ov')) := (Keep.refl _ w4).putN _ fun _ => rfl
  have hT5 := hT4.keepT hk5 fun g hg => by subst hg; exact ⟨_, _, c24, by decide, by decide, by decide, by decide⟩
  have d2 : (w4.putN p2 0 (txC t' iv' ov')).heap[p2]? = some (.cells (txC t' iv' ov') 26 (0, 0)) := by rw [heap_putN_eq c24, splice_all (by rw [hzx, hzt])]
  have hE5 : Ext w (w4.putN p2 0 (txC t' iv' ov')) := (hE03.ext hE4).trans hk5 fun g hg e => by omega
  generalize World.putN _ _ _ _ = w5 at hT5 d2 hE5 ⊢
  clear hk5 c24 hT4 o4 c2d c3d c3 c2 c22 hE4 hEd hE03 hE02 hE2 hE1 r4
  have hR5 := hT5.r
  have hLm : t'.Lm := ⟨hok4, hsz4, by have := hL4.ins; omega, by have := hL4.outs; omega, fun x hx => by have := hL4.inp x hx; omega, fun y hy => by have := hL4.out y hy; omega⟩
  clear hT5
  have r4 : rdO (some (.cells (txC t' iv' ov') 26 (0, 0))) 0 4 = some (txC t' iv' ov') := rdO_all _ _ _ _ rfl
  have hli := ListR.len hR5.ins
  have t1 : (txC t' iv' ov')[1]? = some iv' := rfl
  have fin : ∀ (sx : Value) (bs : List Int) (tl : Env), Rd w sx bs → byt bs → bs.length ≤ 200 → W Try.prog (Ret fun u w' => u = .bool true ∧ Ext w w') 4 15 ((2, .pointer (some ⟨p2, 0, none⟩)) :: (5, .int .i64 i) :: (6, sx) :: (7, .int .i64 value) :: tl) w5 := by
    intro sx bs tl hx hb hbl
    have hx5 := hx.ext hE5
    have lO : oneD.length = 32 := rfl
    have hbo : #[Value.int .u8 1] ++ zc [(31, .int .u8 0)] = (bv oneD).toArray := rfl
    have hq1 : eqAR true (skR [(32, .i .u8)]) (.agg (bv oneD).toArray) (.agg (bv oneD).toArray) = some (.bool false) := by rw [eqA32 lO lO, decide_eq_true rfl]; rfl
    have s32 : (bv oneD).toArray.size = 32 := rfl
    (refine W_at c4_ok ?_; refine ⟨_, rfl, ?_⟩; simp (disch := first | omega | assumption | rfl | (simp only [vcS] <;> omega) | fail) only [↓ptV_l, ↓vcA, vcB, ↓vcD, vcE, ↓reduceIte, Nat.reduceEqDiff, Nat.reduceAdd, Nat.reduceMul, Nat.reduceLeDiff, Int.reduceLE, Int.reduceLT, Int.reduceEq, Int.reduceToNat, Int.reduceAdd, Int.reduceSub, Int.reduceMul, Int.reduceNeg, reduceCtorEq, Option.bind_some, Option.map_some, List.length_cons, List.length_nil, vcM, List.getElem?_toArray, List.getElem?_cons_zero, List.getElem?_cons_succ, d2, r4])
    refine callV_ret (legacy2_ok w5 iv' ov' t' hR5 hLm (-1) sx bs hx5 hb (by omega) 1 (by omega) (by omega)) ?_
    rintro _ w6 ⟨rfl, hE6⟩
    rw [legG_neg]
    first | (simp (disch := first | omega | assumption | rfl | (simp only [vcS] <;> omega) | fail) only [↓ptV_l, ↓vcA, vcB, ↓vcD, vcE, ↓reduceIte, Nat.reduceEqDiff, Nat.reduceAdd, Nat.reduceMul, Nat.reduceLeDiff, Int.reduceLE, Int.reduceLT, Int.reduceEq, Int.reduceToNat, Int.reduceAdd, Int.reduceSub, Int.reduceMul, Int.reduceNeg, reduceCtorEq, Option.bind_some, Option.map_some, List.length_cons, List.length_nil, vcM, List.getElem?_toArray, List.getElem?_cons_zero, List.getElem?_cons_succ, hbo, hq1]) | skip
    have d26 := hE6.at d2 (fun h => h)
    have hR6 := hR5.ext hE6
    have hx6 := hx5.ext hE6
    have hE06 := hE5.ext hE6
    clear hE6 hR5 d2 hx5 hE5
    (refine W_at c4_ok ?_; refine ⟨_, rfl, ?_⟩; simp (disch := first | omega | assumption | rfl | (simp only [vcS] <;> omega) | fail) only [↓ptV_l, ↓vcA, vcB, ↓vcD, vcE, ↓reduceIte, Nat.reduceEqDiff, Nat.reduceAdd, Nat.reduceMul, Nat.reduceLeDiff, Int.reduceLE, Int.reduceLT, Int.reduceEq, Int.reduceToNat, Int.reduceAdd, Int.reduceSub, Int.reduceMul, Int.reduceNeg, reduceCtorEq, Option.bind_some, Option.map_some, List.length_cons, List.length_nil, vcM, List.getElem?_toArray, List.getElem?_cons_zero, List.getElem?_cons_succ])
    by_cases a1 : i < 0
    · (refine W_at c4_ok ?_; refine ⟨_, rfl, ?_⟩; simp (disch := first | omega | assumption | rfl | (simp only [vcS] <;> omega) | fail) only [↓ptV_l, ↓vcA, vcB, ↓vcD, vcE, ↓reduceIte, Nat.reduceEqDiff, Nat.reduceAdd, Nat.reduceMul, Nat.reduceLeDiff, Int.reduceLE, Int.reduceLT, Int.reduceEq, Int.reduceToNat, Int.reduceAdd, Int.reduceSub, Int.reduceMul, Int.reduceNeg, reduceCtorEq, Option.bind_some, Option.map_some, List.length_cons, List.length_nil, vcM, List.getElem?_toArray, List.getElem?_cons_zero, List.getElem?_cons_succ, a1])
      (refine W_at c4_ok ?_; refine ⟨_, rfl, ?_⟩; simp (disch := first | omega | assumption | rfl | (simp only [vcS] <;> omega) | fail) only [↓ptV_l, ↓vcA, vcB, ↓vcD, vcE, ↓reduceIte, Nat.reduceEqDiff, Nat.reduceAdd, Nat.reduceMul, Nat.reduceLeDiff, Int.reduceLE, Int.reduceLT, Int.reduceEq, Int.reduceToNat, Int.reduceAdd, Int.reduceSub, Int.reduceMul, Int.reduceNeg, reduceCtorEq, Option.bind_some, Option.map_some, List.length_cons, List.length_nil, vcM, List.getElem?_toArray, List.getElem?_cons_zero, List.getElem?_cons_succ])
      (refine W_at c4_ok ?_; refine ⟨_, rfl, ?_⟩; simp (disch := first | omega | assumption | rfl | (simp only [vcS] <;> omega) | fail) only [↓ptV_l, ↓vcA, vcB, ↓vcD, vcE, ↓reduceIte, Nat.reduceEqDiff, Nat.reduceAdd, Nat.reduceMul, Nat.reduceLeDiff, Int.reduceLE, Int.reduceLT, Int.reduceEq, Int.reduceToNat, Int.reduceAdd, Int.reduceSub, Int.reduceMul, Int.reduceNeg, reduceCtorEq, Option.bind_some, Option.map_some, List.length_cons, List.length_nil, vcM, List.getElem?_toArray, List.getElem?_cons_zero, List.getElem?_cons_succ])
      (refine W_at c4_ok ?_; refine ⟨_, rfl, ?_⟩; simp (disch := first | omega | assumption | rfl | (simp only [vcS] <;> omega) | fail) only [↓ptV_l, ↓vcA, vcB, ↓vcD, vcE, ↓reduceIte, Nat.reduceEqDiff, Nat.reduceAdd, Nat.reduceMul, Nat.reduceLeDiff, Int.reduceLE, Int.reduceLT, Int.reduceEq, Int.reduceToNat, Int.reduceAdd, Int.reduceSub, Int.reduceMul, Int.reduceNeg, reduceCtorEq, Option.bind_some, Option.map_some, List.length_cons, List.length_nil, vcM, List.getElem?_toArray, List.getElem?_cons_zero, List.getElem?_cons_succ, Ret_returned])
      exact hE06
    by_cases a2 : (t'.ins.length : Int) ≤ i
    · (refine W_at c4_ok ?_; refine ⟨_, rfl, ?_⟩; simp (disch := first | omega | assumption | rfl | (simp only [vcS] <;> omega) | fail) only [↓ptV_l, ↓vcA, vcB, ↓vcD, vcE, ↓reduceIte, Nat.reduceEqDiff, Nat.reduceAdd, Nat.reduceMul, Nat.reduceLeDiff, Int.reduceLE, Int.reduceLT, Int.reduceEq, Int.reduceToNat, Int.reduceAdd, Int.reduceSub, Int.reduceMul, Int.reduceNeg, reduceCtorEq, Option.bind_some, Option.map_some, List.length_cons, List.length_nil, vcM, List.getElem?_toArray, List.getElem?_cons_zero, List.getElem?_cons_succ, a1, a2, d26, t1, hli])
      (refine W_at c4_ok ?_; refine ⟨_, rfl, ?_⟩; simp (disch := first | omega | assumption | rfl | (simp only [vcS] <;> omega) | fail) only [↓ptV_l, ↓vcA, vcB, ↓vcD, vcE, ↓reduceIte, Nat.reduceEqDiff, Nat.reduceAdd, Nat.reduceMul, Nat.reduceLeDiff, Int.reduceLE, Int.reduceLT, Int.reduceEq, Int.reduceToNat, Int.reduceAdd, Int.reduceSub, Int.reduceMul, Int.reduceNeg, reduceCtorEq, Option.bind_some, Option.map_some, List.length_cons, List.length_nil, vcM, List.getElem?_toArray, List.getElem?_cons_zero, List.getElem?_cons_succ])
      (refine W_at c4_ok ?_; refine ⟨_, rfl, ?_⟩; simp (disch := first | omega | assumption | rfl | (simp only [vcS] <;> omega) | fail) only [↓ptV_l, ↓vcA, vcB, ↓vcD, vcE, ↓reduceIte, Nat.reduceEqDiff, Nat.reduceAdd, Nat.reduceMul, Nat.reduceLeDiff, Int.reduceLE, Int.reduceLT, Int.reduceEq, Int.reduceToNat, Int.reduceAdd, Int.reduceSub, Int.reduceMul, Int.reduceNeg, reduceCtorEq, Option.bind_some, Option.map_some, List.length_cons, List.length_nil, vcM, List.getElem?_toArray, List.getElem?_cons_zero, List.getElem?_cons_succ])
      (refine W_at c4_ok ?_; refine ⟨_, rfl, ?_⟩; simp (disch := first | omega | assumption | rfl | (simp only [vcS] <;> omega) | fail) only [↓ptV_l, ↓vcA, vcB, ↓vcD, vcE, ↓reduceIte, Nat.reduceEqDiff, Nat.reduceAdd, Nat.reduceMul, Nat.reduceLeDiff, Int.reduceLE, Int.reduceLT, Int.reduceEq, Int.reduceToNat, Int.reduceAdd, Int.reduceSub, Int.reduceMul, Int.reduceNeg, reduceCtorEq, Option.bind_some, Option.map_some, List.length_cons, List.length_nil, vcM, List.getElem?_toArray, List.getElem?_cons_zero, List.getElem?_cons_succ, Ret_returned])
      exact hE06
    (refine W_at c4_ok ?_; refine ⟨_, rfl, ?_⟩; simp (disch := first | omega | assumption | rfl | (simp only [vcS] <;> omega) | fail) only [↓ptV_l, ↓vcA, vcB, ↓vcD, vcE, ↓reduceIte, Nat.reduceEqDiff, Nat.reduceAdd, Nat.reduceMul, Nat.reduceLeDiff, Int.reduceLE, Int.reduceLT, Int.reduceEq, Int.reduceToNat, Int.reduceAdd, Int.reduceSub, Int.reduceMul, Int.reduceNeg, reduceCtorEq, Option.bind_some, Option.map_some, List.length_cons, List.length_nil, vcM, List.getElem?_toArray, List.getElem?_cons_zero, List.getElem?_cons_succ, a1, a2, d26, t1, hli])
    (refine W_at c4_ok ?_; refine ⟨_, rfl, ?_⟩; simp (disch := first | omega | assumption | rfl | (simp only [vcS] <;> omega) | fail) only [↓ptV_l, ↓vcA, vcB, ↓vcD, vcE, ↓reduceIte, Nat.reduceEqDiff, Nat.reduceAdd, Nat.reduceMul, Nat.reduceLeDiff, Int.reduceLE, Int.reduceLT, Int.reduceEq, Int.reduceToNat, Int.reduceAdd, Int.reduceSub, Int.reduceMul, Int.reduceNeg, reduceCtorEq, Option.bind_some, Option.map_some, List.length_cons, List.length_nil, vcM, List.getElem?_toArray, List.getElem?_cons_zero, List.getElem?_cons_succ])
    obtain ⟨n, rfl⟩ := Int.eq_ofNat_of_zero_le (show 0 ≤ i by omega)
    have hn : n < t'.ins.length := by omega
    -- one of the inputs
    (refine W_at c4_ok ?_; refine ⟨_, rfl, ?_⟩; simp (disch := first | omega | assumption | rfl | (simp only [vcS] <;> omega) | fail) only [↓ptV_l, ↓vcA, vcB, ↓vcD, vcE, ↓reduceIte, Nat.reduceEqDiff, Nat.reduceAdd, Nat.reduceMul, Nat.reduceLeDiff, Int.reduceLE, Int.reduceLT, Int.reduceEq, Int.reduceToNat, Int.reduceAdd, Int.reduceSub, Int.reduceMul, Int.reduceNeg, reduceCtorEq, Option.bind_some, Option.map_some, List.length_cons, List.length_nil, vcM, List.getElem?_toArray, List.getElem?_cons_zero, List.getElem?_cons_succ, d26, r4])
    refine callV_ret (rcopy_ok w6 iv' ov' t' hR6 hok4 hsz4) ?_
    rintro _ w7 ⟨v1, o1, rfl, hI7, hO7, hE7⟩
    have hR7 := txR_of hI7 hO7
    have hz7 := txC_sz t' v1 o1
    have hf7 := txC_flat hR7
    first | (simp (disch := first | omega | assumption | rfl | (simp only [vcS] <;> omega) | fail) only [↓ptV_l, ↓vcA, vcB, ↓vcD, vcE, ↓reduceIte, Nat.reduceEqDiff, Nat.reduceAdd, Nat.reduceMul, Nat.reduceLeDiff, Int.reduceLE, Int.reduceLT, Int.reduceEq, Int.reduceToNat, Int.reduceAdd, Int.reduceSub, Int.reduceMul, Int.reduceNeg, reduceCtorEq, Option.bind_some, Option.map_some, List.length_cons, List.length_nil, vcM, List.getElem?_toArray, List.getElem?_cons_zero, List.getElem?_cons_succ, hz7, hf7]) | skip
    obtain ⟨hE8, d8⟩ := put_tx (wj := w7) (t := t') (iv := v1) (ov := o1)
    have d28 := hE8.at (hE7.at d26 (fun h => h)) (fun h => h)
    have hE78 := hE7.ext hE8
    refine ⟨by decide, ?_⟩
    generalize World.putN _ _ _ _ = w8 at hE8 d8 d28 hE78 ⊢
    have hR8 := hR7.ext hE8
    have hE08 := hE06.ext hE78
    have hs7 := (hE06.ext hE7).size
    have hx8 := hx6.ext hE78
    have hR86 := hR6.ext hE78
    generalize hp8 : w7.heap.size = p8 at d8 hs7 ⊢
    obtain ⟨_, _, _, _, ⟨q, c, e1, hc⟩, hm, _⟩ := id hR8.ins
    subst e1
    have hli50 := hLm.ins
    have wi : IntKind.i64.wrap ((n : Int) + 1) = ((n + 1 : Nat) : Int) := wrap_i64 (by omega) (by omega)
    have k1 : (0 : Int) ≤ (n : Nat) ∧ ((n : Nat) : Int) ≤ ((n + 1 : Nat) : Int) ∧ ((n + 1 : Nat) : Int) ≤ (c : Nat) := by omega
    have k2 : (0 : Int) ≤ ((n + 1 : Nat) : Int) := by omega
    have t81 : (txC t' (.slice q t'.ins.length c) o1)[1]? = some (.slice q t'.ins.length c) := rfl
    (refine W_at c4_ok ?_; refine ⟨_, rfl, ?_⟩; simp (disch := first | omega | assumption | rfl | (simp only [vcS] <;> omega) | fail) only [↓ptV_l, ↓vcA, vcB, ↓vcD, vcE, ↓reduceIte, Nat.reduceEqDiff, Nat.reduceAdd, Nat.reduceMul, Nat.reduceLeDiff, Int.reduceLE, Int.reduceLT, Int.reduceEq, Int.reduceToNat, Int.reduceAdd, Int.reduceSub, Int.reduceMul, Int.reduceNeg, reduceCtorEq, Option.bind_some, Option.map_some, List.length_cons, List.length_nil, vcM, List.getElem?_toArray, List.getElem?_cons_zero, List.getElem?_cons_succ, d8, t81, wi, k1, k2, Int.toNat_natCast])
    refine ⟨wr1_of d8 (by rw [txC_sz]; decide), ?_⟩
    have hk9 : Keep (fun g => g = p8) w8 (w8.setCell ⟨p8, 1, none⟩ (.slice (advA 36 q c n) (n + 1 - n) (c - n))) := (Keep.refl _ w8).setCell _ fun _ => rfl
    have hE79 : Ext w7 (w8.setCell ⟨p8, 1, none⟩ (.slice (advA 36 q c n) (n + 1 - n) (c - n))) := hE8.trans hk9 fun g hg e => by omega
    have d89 : (w8.setCell ⟨p8, 1, none⟩ (.slice (advA 36 q c n) (n + 1 - n) (c - n))).heap[p8]? = some (.cells (txC (oneT t' n) (.slice (advA 36 q c n) (n + 1 - n) (c - n)) o1) 26 (0, 0)) := by rw [heap_setCell_eq d8]; rfl
    generalize World.setCell _ _ _ = w9 at hk9 hE79 d89 ⊢
    have hE69 := hE7.ext hE79
    have d29 := hE69.at d26 (fun h => h)
    have hR9 := hR6.ext hE69
    have hO9 : TxR w9 (.slice (advA 36 q c n) (n + 1 - n) (c - n)) o1 (oneT t' n) := by
      have h9 := hR7.ext hE79
      exact ⟨h9.ins.cut1 hn, h9.outs⟩
    have hx9 := hx6.ext hE69
    have hE09 := hE06.ext hE69
    clear hx8 hR86 hE8 hE78 d28 hR8 d8 t81 hk9 hE79 hE7 hR7 hI7 hO7 hE08
    -- none of the outputs
    (refine W_at c4_ok ?_; refine ⟨_, rfl, ?_⟩; simp (disch := first | omega | assumption | rfl | (simp only [vcS] <;> omega) | fail) only [↓ptV_l, ↓vcA, vcB, ↓vcD, vcE, ↓reduceIte, Nat.reduceEqDiff, Nat.reduceAdd, Nat.reduceMul, Nat.reduceLeDiff, Int.reduceLE, Int.reduceLT, Int.reduceEq, Int.reduceToNat, Int.reduceAdd, Int.reduceSub, Int.reduceMul, Int.reduceNeg, reduceCtorEq, Option.bind_some, Option.map_some, List.length_cons, List.length_nil, vcM, List.getElem?_toArray, List.getElem?_cons_zero, List.getElem?_cons_succ, d29, r4])
    refine callV_ret (rcopy_ok w9 iv' ov' t' hR9 hok4 hsz4) ?_
    rintro _ wA ⟨v2, o2, rfl, hIA, hOA, hEA⟩
    have hRA := txR_of hIA hOA
    have hzA := txC_sz t' v2 o2
    have hfA := txC_flat hRA
    first | (simp (disch := first | omega | assumption | rfl | (simp only [vcS] <;> omega) | fail) only [↓ptV_l, ↓vcA, vcB, ↓vcD, vcE, ↓reduceIte, Nat.reduceEqDiff, Nat.reduceAdd, Nat.reduceMul, Nat.reduceLeDiff, Int.reduceLE, Int.reduceLT, Int.reduceEq, Int.reduceToNat, Int.reduceAdd, Int.reduceSub, Int.reduceMul, Int.reduceNeg, reduceCtorEq, Option.bind_some, Option.map_some, List.length_cons, List.length_nil, vcM, List.getElem?_toArray, List.getElem?_cons_zero, List.getElem?_cons_succ, hzA, hfA]) | skip
    obtain ⟨hEB, d9B⟩ := put_tx (wj := wA) (t := t') (iv := v2) (ov := o2)
    refine ⟨by decide, ?_⟩
    generalize World.putN _ _ _ _ = wB at hEB d9B ⊢
    have hsA := (hE09.ext hEA).size
    generalize hp9 : wA.heap.size = p9 at d9B hsA ⊢
    (refine W_at c4_ok ?_; refine ⟨_, rfl, ?_⟩; simp (disch := first | omega | assumption | rfl | (simp only [vcS] <;> omega) | fail) only [↓ptV_l, ↓vcA, vcB, ↓vcD, vcE, ↓reduceIte, Nat.reduceEqDiff, Nat.reduceAdd, Nat.reduceMul, Nat.reduceLeDiff, Int.reduceLE, Int.reduceLT, Int.reduceEq, Int.reduceToNat, Int.reduceAdd, Int.reduceSub, Int.reduceMul, Int.reduceNeg, reduceCtorEq, Option.bind_some, Option.map_some, List.length_cons, List.length_nil, vcM, List.getElem?_toArray, List.getElem?_cons_zero, List.getElem?_cons_succ])
    refine ⟨wr1_of d9B (by rw [txC_sz]; decide), ?_⟩
    have hkC : Keep (fun g => g = p9) wB (wB.setCell ⟨p9, 2, none⟩ (.slice none 0 0)) := (Keep.refl _ wB).setCell _ fun _ => rfl
    have hEAC : Ext wA (wB.setCell ⟨p9, 2, none⟩ (.slice none 0 0)) := hEB.trans hkC fun g hg e => by omega
    have d9C : (wB.setCell ⟨p9, 2, none⟩ (.slice none 0 0)).heap[p9]? = some (.cells (txC (noneT t') v2 (.slice none 0 0)) 26 (0, 0)) := by rw [heap_setCell_eq d9B]; rfl
    generalize World.setCell _ _ _ = wC at hkC hEAC d9C ⊢
    have hE9C := hEA.ext hEAC
    have d2C := hE9C.at d29 (fun h => h)
    have d8C := hE9C.at d89 (fun h => h)
    have hRC := hR9.ext hE9C
    have hOC := hO9.ext hE9C
    have hNC : TxR wC v2 (.slice none 0 0) (noneT t') := ⟨(hRA.ext hEAC).ins, ListR.nil _ _ _⟩
    have hxC := hx9.ext hE9C
    have hE0C := hE09.ext hE9C
    clear hE9C hEAC hkC d9B hEB hRA hfA hzA hEA hIA hOA d29 hR9 hO9 hx9 hE09 hE69 d89
    (refine W_at c4_ok ?_; refine ⟨_, rfl, ?_⟩; simp (disch := first | omega | assumption | rfl | (simp only [vcS] <;> omega) | fail) only [↓ptV_l, ↓vcA, vcB, ↓vcD, vcE, ↓reduceIte, Nat.reduceEqDiff, Nat.reduceAdd, Nat.reduceMul, Nat.reduceLeDiff, Int.reduceLE, Int.reduceLT, Int.reduceEq, Int.reduceToNat, Int.reduceAdd, Int.reduceSub, Int.reduceMul, Int.reduceNeg, reduceCtorEq, Option.bind_some, Option.map_some, List.length_cons, List.length_nil, vcM, List.getElem?_toArray, List.getElem?_cons_zero, List.getElem?_cons_succ])
    have hLo : (oneT t' n).Lm := ⟨⟨hok4.ver, fun x hx => hok4.ins x (List.mem_of_mem_drop (List.mem_of_mem_take hx)), hok4.outs, hok4.lock⟩, ⟨by show ((t'.ins.drop n).take 1).length * 96 ≤ _; rw [List.length_take, List.length_drop]; omega, hsz4.outs, fun x hx => hsz4.inp x (List.mem_of_mem_drop (List.mem_of_mem_take hx)), hsz4.out⟩,
      by show ((t'.ins.drop n).take 1).length ≤ _; rw [List.length_take, List.length_drop]; omega, hLm.outs, fun x hx => hLm.inp x (List.mem_of_mem_drop (List.mem_of_mem_take hx)), hLm.out⟩
    have hLn : (noneT t').Lm := ⟨⟨hok4.ver, hok4.ins, fun y hy => (by cases hy), hok4.lock⟩, ⟨hsz4.ins, (by show 0 * 32 ≤ 140737488355328; omega), hsz4.inp, fun y hy => (by cases hy)⟩, hLm.ins, (by show 0 ≤ 50; omega), hLm.inp, fun y hy => (by cases hy)⟩
    have r4o : rdO (some (.cells (txC (oneT t' n) (.slice (advA 36 q c n) (n + 1 - n) (c - n)) o1) 26 (0, 0))) 0 4 = some (txC (oneT t' n) (.slice (advA 36 q c n) (n + 1 - n) (c - n)) o1) := rdO_all _ _ _ _ rfl
    have r4n : rdO (some (.cells (txC (noneT t') v2 (.slice none 0 0)) 26 (0, 0))) 0 4 = some (txC (noneT t') v2 (.slice none 0 0)) := rdO_all _ _ _ _ rfl
    have l1 : (List.length bs) = bs.length := rfl
    have hEd : Ext wC wC.drew := (Keep.refl _ wC).drew
    have hOD := hOC.ext hEd
    have hRD := hRC.ext hEd
    have hND := hNC.ext hEd
    have hxD := hxC.ext hEd
    have d2D := hEd.at d2C (fun h => h)
    have d8D := hEd.at d8C (fun h => h)
    have d9D := hEd.at d9C (fun h => h)
    have hE0D := hE0C.ext hEd
    (refine W_at c4_ok ?_; refine ⟨_, rfl, ?_⟩; simp (disch := first | omega | assumption | rfl | (simp only [vcS] <;> omega) | fail) only [↓vcL1, ptS2_eq, ↓vcA, vcB, ↓vcD, vcE, ↓reduceIte, Nat.reduceEqDiff, Nat.reduceAdd, Nat.reduceMul, Nat.reduceLeDiff, Int.reduceLE, Int.reduceLT, Int.reduceEq, Int.reduceToNat, Int.reduceAdd, Int.reduceSub, Int.reduceMul, Int.reduceNeg, reduceCtorEq, Option.bind_some, Option.map_some, List.length_cons, List.length_nil, vcM, List.getElem?_toArray, List.getElem?_cons_zero, List.getElem?_cons_succ, d2C, d8C, d9C, r4, r4o, r4n])
    generalize World.drew wC = wD at hOD hRD hND hxD d2D d8D d9D hE0D ⊢
    clear hEd hE0C hxC hNC hOC hRC d2C d8C d9C
    have q1 : witF (oneT t' n) 0 bs value 130 = witF t' n bs value 130 := wit_one hn bs value
    have q2 : legG (oneT t' n) 0 bs 130 = legG t' n bs 130 := leg_one hn bs
    have q3 : legG (noneT t') n bs 2 = legG t' n bs 2 := leg_none hn bs
    have q4 : witF (noneT t') n bs value 2 = witF t' n bs value 2 := wit_none hn bs value
    have e1 := eqA_self (witF_len t' n bs value 130)
    have e2 := eqA_self (legG_len t' n bs 130)
    have e3 := eqA_self (legG_len t' n bs 2)
    have e4 := eqA_self (witF_len t' n bs value 2)
    refine callV_ret (witness2_ok wD _ _ (oneT t' n) hOD hLo 0 sx bs hxD hb (by omega) value 130 (by omega)) ?_
    rintro _ w0' ⟨rfl, y0⟩
    have x0 : Ext wD w0' := y0
    rw [q1]
    have d20 := x0.at d2D (fun h => h)
    have d80 := x0.at d8D (fun h => h)
    have d90 := x0.at d9D (fun h => h)
    refine ⟨by rw [d20, r4]; rfl, ?_⟩
    simp (disch := first | omega | assumption | rfl | (simp only [vcS] <;> omega) | fail) only [↓vcL2, ptS1_eq, ↓vcA, vcB, ↓vcD, vcE, ↓reduceIte, Nat.reduceEqDiff, Nat.reduceAdd, Nat.reduceMul, Nat.reduceLeDiff, Int.reduceLE, Int.reduceLT, Int.reduceEq, Int.reduceToNat, Int.reduceAdd, Int.reduceSub, Int.reduceMul, Int.reduceNeg, reduceCtorEq, Option.bind_some, Option.map_some, List.length_cons, List.length_nil, vcM, List.getElem?_toArray, List.getElem?_cons_zero, List.getElem?_cons_succ, e1, e2, e3, e4, d20, d80, d90, r4, r4o, r4n]
    refine callV_ret (witness2_ok w0' _ _ t' (hRD.ext x0) hLm n sx bs (hxD.ext x0) hb (by omega) value 130 (by omega)) ?_
    rintro _ w1' ⟨rfl, y1⟩
    have x1 : Ext wD w1' := x0.ext y1
    have d21 := x1.at d2D (fun h => h)
    have d81 := x1.at d8D (fun h => h)
    have d91 := x1.at d9D (fun h => h)
    simp (disch := first | omega | assumption | rfl | (simp only [vcS] <;> omega) | fail) only [↓vcL1, ptS2_eq, ↓vcA, vcB, ↓vcD, vcE, ↓reduceIte, Nat.reduceEqDiff, Nat.reduceAdd, Nat.reduceMul, Nat.reduceLeDiff, Int.reduceLE, Int.reduceLT, Int.reduceEq, Int.reduceToNat, Int.reduceAdd, Int.reduceSub, Int.reduceMul, Int.reduceNeg, reduceCtorEq, Option.bind_some, Option.map_some, List.length_cons, List.length_nil, vcM, List.getElem?_toArray, List.getElem?_cons_zero, List.getElem?_cons_succ, e1, e2, e3, e4, d21, d81, d91, r4, r4o, r4n]
    refine callV_ret (legacy2_ok w1' _ _ (oneT t' n) (hOD.ext x1) hLo 0 sx bs (hxD.ext x1) hb (by omega) 130 (by omega) (by omega)) ?_
    rintro _ w2' ⟨rfl, y2⟩
    have x2 : Ext wD w2' := x1.ext y2
    rw [q2]
    have d22 := x2.at d2D (fun h => h)
    have d82 := x2.at d8D (fun h => h)
    have d92 := x2.at d9D (fun h => h)
    refine ⟨by rw [d22, r4]; rfl, ?_⟩
    simp (disch := first | omega | assumption | rfl | (simp only [vcS] <;> omega) | fail) only [↓vcL2, ptS1_eq, ↓vcA, vcB, ↓vcD, vcE, ↓reduceIte, Nat.reduceEqDiff, Nat.reduceAdd, Nat.reduceMul, Nat.reduceLeDiff, Int.reduceLE, Int.reduceLT, Int.reduceEq, Int.reduceToNat, Int.reduceAdd, Int.reduceSub, Int.reduceMul, Int.reduceNeg, reduceCtorEq, Option.bind_some, Option.map_some, List.length_cons, List.length_nil, vcM, List.getElem?_toArray, List.getElem?_cons_zero, List.getElem?_cons_succ, e1, e2, e3, e4, d22, d82, d92, r4, r4o, r4n]
    refine callV_ret (legacy2_ok w2' _ _ t' (hRD.ext x2) hLm n sx bs (hxD.ext x2) hb (by omega) 130 (by omega) (by omega)) ?_
    rintro _ w3' ⟨rfl, y3⟩
    have x3 : Ext wD w3' := x2.ext y3
    have d23 := x3.at d2D (fun h => h)
    have d83 := x3.at d8D (fun h => h)
    have d93 := x3.at d9D (fun h => h)
    simp (disch := first | omega | assumption | rfl | (simp only [vcS] <;> omega) | fail) only [↓vcL1, ptS2_eq, ↓vcA, vcB, ↓vcD, vcE, ↓reduceIte, Nat.reduceEqDiff, Nat.reduceAdd, Nat.reduceMul, Nat.reduceLeDiff, Int.reduceLE, Int.reduceLT, Int.reduceEq, Int.reduceToNat, Int.reduceAdd, Int.reduceSub, Int.reduceMul, Int.reduceNeg, reduceCtorEq, Option.bind_some, Option.map_some, List.length_cons, List.length_nil, vcM, List.getElem?_toArray, List.getElem?_cons_zero, List.getElem?_cons_succ, e1, e2, e3, e4, d23, d83, d93, r4, r4o, r4n]
    refine callV_ret (legacy2_ok w3' _ _ (noneT t') (hND.ext x3) hLn n sx bs (hxD.ext x3) hb (by omega) 2 (by omega) (by omega)) ?_
    rintro _ w4' ⟨rfl, y4⟩
    have x4 : Ext wD w4' := x3.ext y4
    rw [q3]
    have d24 := x4.at d2D (fun h => h)
    have d84 := x4.at d8D (fun h => h)
    have d94 := x4.at d9D (fun h => h)
    refine ⟨by rw [d24, r4]; rfl, ?_⟩
    simp (disch := first | omega | assumption | rfl | (simp only [vcS] <;> omega) | fail) only [↓vcL2, ptS1_eq, ↓vcA, vcB, ↓vcD, vcE, ↓reduceIte, Nat.reduceEqDiff, Nat.reduceAdd, Nat.reduceMul, Nat.reduceLeDiff, Int.reduceLE, Int.reduceLT, Int.reduceEq, Int.reduceToNat, Int.reduceAdd, Int.reduceSub, Int.reduceMul, Int.reduceNeg, reduceCtorEq, Option.bind_some, Option.map_some, List.length_cons, List.length_nil, vcM, List.getElem?_toArray, List.getElem?_cons_zero, List.getElem?_cons_succ, e1, e2, e3, e4, d24, d84, d94, r4, r4o, r4n]
    refine callV_ret (legacy2_ok w4' _ _ t' (hRD.ext x4) hLm n sx bs (hxD.ext x4) hb (by omega) 2 (by omega) (by omega)) ?_
    rintro _ w5' ⟨rfl, y5⟩
    have x5 : Ext wD w5' := x4.ext y5
    have d25 := x5.at d2D (fun h => h)
    have d85 := x5.at d8D (fun h => h)
    have d95 := x5.at d9D (fun h => h)
    simp (disch := first | omega | assumption | rfl | (simp only [vcS] <;> omega) | fail) only [↓vcL1, ptS2_eq, ↓vcA, vcB, ↓vcD, vcE, ↓reduceIte, Nat.reduceEqDiff, Nat.reduceAdd, Nat.reduceMul, Nat.reduceLeDiff, Int.reduceLE, Int.reduceLT, Int.reduceEq, Int.reduceToNat, Int.reduceAdd, Int.reduceSub, Int.reduceMul, Int.reduceNeg, reduceCtorEq, Option.bind_some, Option.map_some, List.length_cons, List.length_nil, vcM, List.getElem?_toArray, List.getElem?_cons_zero, List.getElem?_cons_succ, e1, e2, e3, e4, d25, d85, d95, r4, r4o, r4n]
    refine callV_ret (witness2_ok w5' _ _ (noneT t') (hND.ext x5) hLn n sx bs (hxD.ext x5) hb (by omega) value 2 (by omega)) ?_
    rintro _ w6' ⟨rfl, y6⟩
    have x6 : Ext wD w6' := x5.ext y6
    rw [q4]
    have d26 := x6.at d2D (fun h => h)
    have d86 := x6.at d8D (fun h => h)
    have d96 := x6.at d9D (fun h => h)
    refine ⟨by rw [d26, r4]; rfl, ?_⟩
    simp (disch := first | omega | assumption | rfl | (simp only [vcS] <;> omega) | fail) only [↓vcL2, ptS1_eq, ↓vcA, vcB, ↓vcD, vcE, ↓reduceIte, Nat.reduceEqDiff, Nat.reduceAdd, Nat.reduceMul, Nat.reduceLeDiff, Int.reduceLE, Int.reduceLT, Int.reduceEq, Int.reduceToNat, Int.reduceAdd, Int.reduceSub, Int.reduceMul, Int.reduceNeg, reduceCtorEq, Option.bind_some, Option.map_some, List.length_cons, List.length_nil, vcM, List.getElem?_toArray, List.getElem?_cons_zero, List.getElem?_cons_succ, e1, e2, e3, e4, d26, d86, d96, r4, r4o, r4n]
    refine callV_ret (witness2_ok w6' _ _ t' (hRD.ext x6) hLm n sx bs (hxD.ext x6) hb (by omega) value 2 (by omega)) ?_
    rintro _ w7' ⟨rfl, y7⟩
    have x7 : Ext wD w7' := x6.ext y7
    have d27 := x7.at d2D (fun h => h)
    have d87 := x7.at d8D (fun h => h)
    have d97 := x7.at d9D (fun h => h)
    simp (disch := first | omega | assumption | rfl | (simp only [vcS] <;> omega) | fail) only [↓vcL1, ptS2_eq, ↓vcA, vcB, ↓vcD, vcE, ↓reduceIte, Nat.reduceEqDiff, Nat.reduceAdd, Nat.reduceMul, Nat.reduceLeDiff, Int.reduceLE, Int.reduceLT, Int.reduceEq, Int.reduceToNat, Int.reduceAdd, Int.reduceSub, Int.reduceMul, Int.reduceNeg, reduceCtorEq, Option.bind_some, Option.map_some, List.length_cons, List.length_nil, vcM, List.getElem?_toArray, List.getElem?_cons_zero, List.getElem?_cons_succ, e1, e2, e3, e4, d27, d87, d97, r4, r4o, r4n]
    (refine W_at c4_ok ?_; refine ⟨_, rfl, ?_⟩; simp (disch := first | omega | assumption | rfl | (simp only [vcS] <;> omega) | fail) only [↓ptV_l, ↓vcA, vcB, ↓vcD, vcE, ↓reduceIte, Nat.reduceEqDiff, Nat.reduceAdd, Nat.reduceMul, Nat.reduceLeDiff, Int.reduceLE, Int.reduceLT, Int.reduceEq, Int.reduceToNat, Int.reduceAdd, Int.reduceSub, Int.reduceMul, Int.reduceNeg, reduceCtorEq, Option.bind_some, Option.map_some, List.length_cons, List.length_nil, vcM, List.getElem?_toArray, List.getElem?_cons_zero, List.getElem?_cons_succ, Ret_returned])
    exact hE0D.ext x7
  have hlx := hx.len
  (refine W_at c4_ok ?_; refine ⟨_, rfl, ?_⟩; simp (disch := first | omega | assumption | rfl | (simp only [vcS] <;> omega) | fail) only [↓ptV_l, ↓vcA, vcB, ↓vcD, vcE, ↓reduceIte, Nat.reduceEqDiff, Nat.reduceAdd, Nat.reduceMul, Nat.reduceLeDiff, Int.reduceLE, Int.reduceLT, Int.reduceEq, Int.reduceToNat, Int.reduceAdd, Int.reduceSub, Int.reduceMul, Int.reduceNeg, reduceCtorEq, Option.bind_some, Option.map_some, List.length_cons, List.length_nil, vcM, List.getElem?_toArray, List.getElem?_cons_zero, List.getElem?_cons_succ, hlx])
  by_cases h2 : (200 : Int) < (bs.length : Nat)
  · obtain ⟨⟨q, c, rfl, hc⟩, hm, _⟩ := id hx
    have k1 : (0 : Int) ≤ 200 ∧ (200 : Int) ≤ (c : Nat) := by omega
    have k2 : (200 : Int) ≤ (c : Nat) := by omega
    have hcut := hx.cut (l := 0) (j := 200) (Nat.zero_le _) (by omega)
    rw [advA_0, Nat.sub_zero, Nat.sub_zero, List.drop_zero] at hcut
    (refine W_at c4_ok ?_; refine ⟨_, rfl, ?_⟩; simp (disch := first | omega | assumption | rfl | (simp only [vcS] <;> omega) | fail) only [↓ptV_l, ↓vcA, vcB, ↓vcD, vcE, ↓reduceIte, Nat.reduceEqDiff, Nat.reduceAdd, Nat.reduceMul, Nat.reduceLeDiff, Int.reduceLE, Int.reduceLT, Int.reduceEq, Int.reduceToNat, Int.reduceAdd, Int.reduceSub, Int.reduceMul, Int.reduceNeg, reduceCtorEq, Option.bind_some, Option.map_some, List.length_cons, List.length_nil, vcM, List.getElem?_toArray, List.getElem?_cons_zero, List.getElem?_cons_succ, h2])
    (refine W_at c4_ok ?_; refine ⟨_, rfl, ?_⟩; simp (disch := first | omega | assumption | rfl | (simp only [vcS] <;> omega) | fail) only [↓ptV_l, ↓vcA, vcB, ↓vcD, vcE, ↓reduceIte, Nat.reduceEqDiff, Nat.reduceAdd, Nat.reduceMul, Nat.reduceLeDiff, Int.reduceLE, Int.reduceLT, Int.reduceEq, Int.reduceToNat, Int.reduceAdd, Int.reduceSub, Int.reduceMul, Int.reduceNeg, reduceCtorEq, Option.bind_some, Option.map_some, List.length_cons, List.length_nil, vcM, List.getElem?_toArray, List.getElem?_cons_zero, List.getElem?_cons_succ, k1, k2, advA_0, Nat.sub_zero])
    exact fin _ (bs.take 200) _ hcut (byt_take hb _) (by rw [List.length_take]; omega)
  · (refine W_at c4_ok ?_; refine ⟨_, rfl, ?_⟩; simp (disch := first | omega | assumption | rfl | (simp only [vcS] <;> omega) | fail) only [↓ptV_l, ↓vcA, vcB, ↓vcD, vcE, ↓reduceIte, Nat.reduceEqDiff, Nat.reduceAdd, Nat.reduceMul, Nat.reduceLeDiff, Int.reduceLE, Int.reduceLT, Int.reduceEq, Int.reduceToNat, Int.reduceAdd, Int.reduceSub, Int.reduceMul, Int.reduceNeg, reduceCtorEq, Option.bind_some, Option.map_some, List.length_cons, List.length_nil, vcM, List.getElem?_toArray, List.getElem?_cons_zero, List.getElem?_cons_succ, h2])
    exact fin sx bs _ hx hb (by omega)
end Go.Proofs
namespace Go.Proofs.Ytmbjokhekfiihaa
open Go.Vc Go.ChangeShapes Go.WideShapes Go.ChangeAt Go.RowKit Go.Proofs

set_option maxRecDepth 100000 in
theorem commits_lifted (os : Os) (started : os.Started) (H : Type) (enc : TypeId × Value → H) :
    ReturnsInHanded {} Try.checked os 4 .any (Rows.strongboxCommitsSpec.pre6 enc Try.prog Try.f4 Rows.strongboxCommitsRow.domain false) (Rows.strongboxCommitsSpec.post enc Try.prog Try.f4 false true false false) := by
  refine returnsInHanded_of_change_sized (C := Try.checked) Try.own started (by kernel_rfl) Try.func4
    (ChangeSpec.witness6 (enc := enc) (C := Try.checked) false ⟨#[], #[.agg #[.int .i32 0, .slice none 0 0, .slice none 0 0, .int .u32 0], .agg #[.int .i64 0, .int .u8 0, .slice none 0 0, .int .i64 0]], []⟩ 8 (by kernel_rfl) (by kernel_rfl) (by kernel_rfl) (by kernel_rfl)) ?_
  intro W base args ds gs before hval0 hW hcnd hz _
  refine post_trueB bzT Try.laidOut rfl rfl (tb := 4) (by kernel_rfl) ?_ ?_ hval0 hW hz ?_
  · rw [Try.params4]; intro t ht; simp at ht; rcases ht with rfl | rfl <;> exact ⟨by kernel_rfl, of_decide_eq_true (by kernel_rfl)⟩
  · intro ds hd; rw [Try.params4] at hd; match ds, hd with | [_, _], _ => rfl
  · intro hs ha
    rw [Try.params4] at hs ha
    obtain ⟨v, u, rfl⟩ := args_2 hs
    obtain ⟨t, iv, ov, rfl, hT, hok, hsz⟩ := tx_arg (ha 0 26 v rfl rfl)
    obtain ⟨i, kind, sx, value, bs, rfl, hi, hk, hx, hb, hv⟩ := way_arg (ha 1 29 u rfl rfl)
    exact commits_ok W iv ov t hT hok hsz i hi kind sx bs hx hb value
theorem commits_holds : Rows.StrongboxCommitsSaid :=
  OpenClaim.holds_of_wide 4 Try.f4 rfl rfl rfl rfl rfl rfl rfl ⟨rfl, rfl, rfl, rfl, rfl⟩ rfl rfl rfl rfl rfl (by kernel_rfl) Try.func4 (by kernel_rfl)
    (of_decide_eq_true (by kernel_rfl)) (by unfold Func.isWrapper; first | (rw [if_pos (by decide +kernel)]; kernel_rfl) | (rw [if_neg (by decide +kernel)]; exact ⟨rfl, rfl⟩))
    (fun os started H enc _ => commits_lifted os started H enc)
end Go.Proofs.Ytmbjokhekfiihaa
