/- The law's 'awake': a fixed fact of the program's book. -/
import Derived.Test.YtnbbgmnjjdaopaaFE
set_option linter.unusedSimpArgs false
set_option linter.unusedVariables false
set_option linter.constructorNameAsVariable false
namespace Go.Proofs
open Go.Vc Go.Proofs.Fees
set_option maxRecDepth 10000

/-- A book of one's own. -/
structure Mine (w0 w : World) (b : Nat) (m : Option Nat) (cnt : List Int) (ws : List WE) : Prop where
  ext : Ext w0 w
  bl : w0.heap.size ≤ b
  ml : ∀ r, m = some r → w0.heap.size ≤ r
  book : BookAt w b cnt m ws
theorem Mine.keep {w0 w w1 : World} {b : Nat} {m : Option Nat} {cnt : List Int} {ws : List WE} (h : Mine w0 w b m cnt ws) (hE : Ext w w1) : Mine w0 w1 b m cnt ws :=
  ⟨h.ext.ext hE, h.bl, h.ml, h.book.keep hE (fun h => h) fun _ _ h => h⟩
theorem Mine.step {w0 w w1 : World} {b : Nat} {m : Option Nat} {cnt cnt' : List Int} {ws ws' : List WE} (h : Mine w0 w b m cnt ws) (hb : BookTo w b cnt' m ws' w1) :
    ∃ m', Mine w0 w1 b m' cnt' ws' ∧ Keep (Own b m) w w1 := by
  obtain ⟨m', h1, h2, h3⟩ := hb
  refine ⟨m', ⟨?_, h.bl, ?_, h1⟩, h2⟩
  · refine h.ext.trans h2 fun i hi ho => ?_
    rcases ho with rfl | ho
    · have := h.bl; omega
    · have := h.ml i ho; omega
  · rcases h3 with rfl | ⟨r, rfl, hr⟩
    · exact h.ml
    · intro r' hr'; cases hr'; exact Nat.le_trans h.ext.size hr
theorem Mine.start (w : World) : Mine w (w.alloc (.cells (bookC (List.replicate 312 0) none) 67)) w.heap.size none (List.replicate 312 0) [] :=
  let h := Both.start w; ⟨h.ext, h.bl, h.ml, h.book⟩

theorem nameC_inj {a b : Int} : nameC a = nameC b ↔ a = b := by
  constructor
  · intro h
    have e : ∀ a, (nameC a).toList = Value.int .u8 a :: (Value.int .u8 7 :: (zc [(30, .int .u8 0)]).toList) := fun a => by
      simp only [nameC, Array.toList_append, List.cons_append, List.nil_append]
    have h2 := congrArg Array.toList h
    rw [e, e] at h2
    injection h2 with h3 _
    injection h3
  · rintro rfl; rfl
theorem keq_names (a b : Int) : keq (nameC a) (nameC b) = decide (a = b) := by
  by_cases h : a = b
  · rw [keq_iff.2 (nameC_inj.2 h), decide_eq_true h]
  · rw [decide_eq_false h]
    cases hk : keq (nameC a) (nameC b) with
    | false => rfl
    | true => exact absurd (nameC_inj.1 (keq_iff.1 hk)) h

def cAw : List Int := hitC 2 (#[], 2, 1) (hitC 2 (#[], 2, 1) (hitC 2 (#[], 2, 1) (List.replicate 312 0)))
theorem bucket_5000 : bucketF 5000 = 2 := by decide
theorem ws_aw : entW (nameC 2) (bucketF 5000) 1 (entW (nameC 1) (bucketF 5000) 1 (entW (nameC 0) (bucketF 5000) 1 [])) = [(nameC 0, 2, 1), (nameC 1, 2, 1), (nameC 2, 2, 1)] := by
  simp [entW, idxW, addW, keq_names, bucket_5000]
theorem hits_aw : hits 2 [nameC 0, nameC 1, nameC 2] ((List.replicate 312 0).map fadeF) [(nameC 0, 2, 1), (nameC 1, 2, 1), (nameC 2, 2, 1)] = (cAw, []) := by
  have hz : (List.replicate 312 (0 : Int)).map fadeF = List.replicate 312 0 := by rw [List.map_replicate, fade_zero]
  have hc : ∀ k c, hitC 2 (k, 2, 1) c = hitC 2 (#[], 2, 1) c := fun _ _ => rfl
  rw [hz]
  simp only [hits, idxW, delW, keq_names, decide_true, ite_true, Option.bind_some, List.getElem?_cons_zero, List.eraseIdx_cons_zero, hc, cAw]
theorem cAw_26 : cAw.getD 26 0 = 3000 := by kernel_rfl
theorem cAw_27 : cAw.getD 27 0 = 3000 := by kernel_rfl
theorem est_aw : estR (fun k => cAw.getD (k * 13) 0) (fun k => cAw.getD (k * 13 + Int.toNat 1) 0) 1 90 = #[.int .i64 4000, .int .i64 0] := by
  have h : estF (fun k => cAw.getD (k * 13) 0) (fun k => cAw.getD (k * 13 + Int.toNat 1) 0) 90 24 0 0 0 = 4000 := by kernel_rfl
  rw [estR, if_neg (by omega), h]; rfl
theorem own_lit {w : World} {el size n : Nat} {cs : List Value} (hl : cs.length = n * size) (hn : n ≤ maxLen) : (w.alloc (.cells cs.toArray el)).ownsRow 0 el size (.slice (some ⟨w.heap.size, 0, none⟩) n n) n cs := by
  refine ⟨hl, .inr ⟨w.heap.size, n, cs.toArray, rfl, Nat.zero_le _, heap_new _ _ _ rfl, Nat.le_refl _, hn, by simp [hl], ?_⟩⟩
  rw [← hl]; simp
theorem awake_ok (w : World) : Calls Try.prog 8 #[] w (Ret fun u w' => u = .bool true ∧ Ext w w') := by
  refine calls_of_cfg c8_ok (Nat.le_of_ble_eq_true rfl) ?_
  simp only [argE_nil, argE_cons, Nat.reduceAdd, Nat.zero_add]
  (refine W_at c8_ok ?_; refine ⟨_, rfl, ?_⟩; simp (disch := first | omega | assumption | rfl | (simp only [vcS] <;> omega) | fail) only [↓ptV_l, ↓vcA, vcB, ↓vcD, vcE, ↓reduceIte, Nat.reduceEqDiff, Nat.reduceAdd, Nat.reduceMul, Nat.reduceLeDiff, Int.reduceLE, Int.reduceLT, Int.reduceEq, Int.reduceToNat, Int.reduceAdd, Int.reduceSub, Int.reduceMul, Int.reduceNeg, reduceCtorEq, Option.bind_some, Option.map_some, List.length_cons, List.length_nil, vcM, List.getElem?_toArray, List.getElem?_cons_zero, List.getElem?_cons_succ])
  (refine W_at c8_ok ?_; refine ⟨_, rfl, ?_⟩; simp (disch := first | omega | assumption | rfl | (simp only [vcS] <;> omega) | fail) only [↓ptV_l, ↓vcA, vcB, ↓vcD, vcE, ↓reduceIte, Nat.reduceEqDiff, Nat.reduceAdd, Nat.reduceMul, Nat.reduceLeDiff, Int.reduceLE, Int.reduceLT, Int.reduceEq, Int.reduceToNat, Int.reduceAdd, Int.reduceSub, Int.reduceMul, Int.reduceNeg, reduceCtorEq, Option.bind_some, Option.map_some, List.length_cons, List.length_nil, vcM, List.getElem?_toArray, List.getElem?_cons_zero, List.getElem?_cons_succ])
  refine callV_ret (new_ok w) ?_
  rintro _ w1 ⟨rfl, rfl⟩
  have hM := Mine.start w
  generalize w.heap.size = b at hM ⊢
  generalize World.alloc _ _ = w1 at hM ⊢
  have hM' : ∃ m, Mine w w1 b m (List.replicate 312 0) [] := ⟨none, hM⟩
  clear hM
  obtain ⟨m, hM⟩ := hM'
  (refine W_at c8_ok ?_; refine ⟨_, rfl, ?_⟩; simp (disch := first | omega | assumption | rfl | (simp only [vcS] <;> omega) | fail) only [↓ptV_l, ↓vcA, vcB, ↓vcD, vcE, ↓reduceIte, Nat.reduceEqDiff, Nat.reduceAdd, Nat.reduceMul, Nat.reduceLeDiff, Int.reduceLE, Int.reduceLT, Int.reduceEq, Int.reduceToNat, Int.reduceAdd, Int.reduceSub, Int.reduceMul, Int.reduceNeg, reduceCtorEq, Option.bind_some, Option.map_some, List.length_cons, List.length_nil, vcM, List.getElem?_toArray, List.getElem?_cons_zero, List.getElem?_cons_succ])
  (refine W_at c8_ok ?_; refine ⟨_, rfl, ?_⟩; simp (disch := first | omega | assumption | rfl | (simp only [vcS] <;> omega) | fail) only [↓ptV_l, ↓vcA, vcB, ↓vcD, vcE, ↓reduceIte, Nat.reduceEqDiff, Nat.reduceAdd, Nat.reduceMul, Nat.reduceLeDiff, Int.reduceLE, Int.reduceLT, Int.reduceEq, Int.reduceToNat, Int.reduceAdd, Int.reduceSub, Int.reduceMul, Int.reduceNeg, reduceCtorEq, Option.bind_some, Option.map_some, List.length_cons, List.length_nil, vcM, List.getElem?_toArray, List.getElem?_cons_zero, List.getElem?_cons_succ])
  (refine W_at c8_ok ?_; refine ⟨_, rfl, ?_⟩; simp (disch := first | omega | assumption | rfl | (simp only [vcS] <;> omega) | fail) only [↓ptV_l, ↓vcA, vcB, ↓vcD, vcE, ↓reduceIte, Nat.reduceEqDiff, Nat.reduceAdd, Nat.reduceMul, Nat.reduceLeDiff, Int.reduceLE, Int.reduceLT, Int.reduceEq, Int.reduceToNat, Int.reduceAdd, Int.reduceSub, Int.reduceMul, Int.reduceNeg, reduceCtorEq, Option.bind_some, Option.map_some, List.length_cons, List.length_nil, vcM, List.getElem?_toArray, List.getElem?_cons_zero, List.getElem?_cons_succ])
  have S : ∀ (i : Int) (wj : World) (m : Option Nat) (ws : List WE), i < 3 → IntKind.u8.wrap (i + 1) = i + 1 → Mine w wj b m (List.replicate 312 0) ws → 
      (∀ wk mk, Mine w wk b mk (List.replicate 312 0) (entW (nameC i) (bucketF 5000) 1 ws) → W Try.prog (Ret fun u w' => u = .bool true ∧ Ext w w') 8 9 [(1, .pointer (some ⟨b, 0, none⟩)), (2, .int .u8 (i + 1))] wk) →
      W Try.prog (Ret fun u w' => u = .bool true ∧ Ext w w') 8 9 [(1, .pointer (some ⟨b, 0, none⟩)), (2, .int .u8 i)] wj := by
    intro i wj m ws hi hw hM hk
    (refine W_at c8_ok ?_; refine ⟨_, rfl, ?_⟩; simp (disch := first | omega | assumption | rfl | (simp only [vcS] <;> omega) | fail) only [↓ptV_l, ↓vcA, vcB, ↓vcD, vcE, ↓reduceIte, Nat.reduceEqDiff, Nat.reduceAdd, Nat.reduceMul, Nat.reduceLeDiff, Int.reduceLE, Int.reduceLT, Int.reduceEq, Int.reduceToNat, Int.reduceAdd, Int.reduceSub, Int.reduceMul, Int.reduceNeg, reduceCtorEq, Option.bind_some, Option.map_some, List.length_cons, List.length_nil, vcM, List.getElem?_toArray, List.getElem?_cons_zero, List.getElem?_cons_succ, hi])
    (refine W_at c8_ok ?_; refine ⟨_, rfl, ?_⟩; simp (disch := first | omega | assumption | rfl | (simp only [vcS] <;> omega) | fail) only [↓ptV_l, ↓vcA, vcB, ↓vcD, vcE, ↓reduceIte, Nat.reduceEqDiff, Nat.reduceAdd, Nat.reduceMul, Nat.reduceLeDiff, Int.reduceLE, Int.reduceLT, Int.reduceEq, Int.reduceToNat, Int.reduceAdd, Int.reduceSub, Int.reduceMul, Int.reduceNeg, reduceCtorEq, Option.bind_some, Option.map_some, List.length_cons, List.length_nil, vcM, List.getElem?_toArray, List.getElem?_cons_zero, List.getElem?_cons_succ])
    (refine W_at c8_ok ?_; refine ⟨_, rfl, ?_⟩; simp (disch := first | omega | assumption | rfl | (simp only [vcS] <;> omega) | fail) only [↓ptV_l, ↓vcA, vcB, ↓vcD, vcE, ↓reduceIte, Nat.reduceEqDiff, Nat.reduceAdd, Nat.reduceMul, Nat.reduceLeDiff, Int.reduceLE, Int.reduceLT, Int.reduceEq, Int.reduceToNat, Int.reduceAdd, Int.reduceSub, Int.reduceMul, Int.reduceNeg, reduceCtorEq, Option.bind_some, Option.map_some, List.length_cons, List.length_nil, vcM, List.getElem?_toArray, List.getElem?_cons_zero, List.getElem?_cons_succ])
    refine callV_ret (name_ok i _) ?_
    rintro _ w2 ⟨rfl, hE2⟩
    have hM2 := hM.keep hE2
    refine callV_ret (enter_ok w2 b _ m ws _ 5000 1 hM2.book (nameC_HK i)) ?_
    intro _ w3 hT
    obtain ⟨m', hM3, _⟩ := hM2.step hT
    (refine W_at c8_ok ?_; refine ⟨_, rfl, ?_⟩; simp (disch := first | omega | assumption | rfl | (simp only [vcS] <;> omega) | fail) only [↓ptV_l, ↓vcA, vcB, ↓vcD, vcE, ↓reduceIte, Nat.reduceEqDiff, Nat.reduceAdd, Nat.reduceMul, Nat.reduceLeDiff, Int.reduceLE, Int.reduceLT, Int.reduceEq, Int.reduceToNat, Int.reduceAdd, Int.reduceSub, Int.reduceMul, Int.reduceNeg, reduceCtorEq, Option.bind_some, Option.map_some, List.length_cons, List.length_nil, vcM, List.getElem?_toArray, List.getElem?_cons_zero, List.getElem?_cons_succ, hw])
    (refine W_at c8_ok ?_; refine ⟨_, rfl, ?_⟩; simp (disch := first | omega | assumption | rfl | (simp only [vcS] <;> omega) | fail) only [↓ptV_l, ↓vcA, vcB, ↓vcD, vcE, ↓reduceIte, Nat.reduceEqDiff, Nat.reduceAdd, Nat.reduceMul, Nat.reduceLeDiff, Int.reduceLE, Int.reduceLT, Int.reduceEq, Int.reduceToNat, Int.reduceAdd, Int.reduceSub, Int.reduceMul, Int.reduceNeg, reduceCtorEq, Option.bind_some, Option.map_some, List.length_cons, List.length_nil, vcM, List.getElem?_toArray, List.getElem?_cons_zero, List.getElem?_cons_succ])
    exact hk w3 m' hM3
  refine S 0 w1 m [] (by omega) (by decide) hM fun w2 m2 hM2 => ?_
  refine S 1 w2 m2 _ (by omega) (by decide) hM2 fun w3 m3 hM3 => ?_
  refine S 2 w3 m3 _ (by omega) (by decide) hM3 fun w4 m4 hM4 => ?_
  rw [ws_aw] at hM4
  (refine W_at c8_ok ?_; refine ⟨_, rfl, ?_⟩; simp (disch := first | omega | assumption | rfl | (simp only [vcS] <;> omega) | fail) only [↓ptV_l, ↓vcA, vcB, ↓vcD, vcE, ↓reduceIte, Nat.reduceEqDiff, Nat.reduceAdd, Nat.reduceMul, Nat.reduceLeDiff, Int.reduceLE, Int.reduceLT, Int.reduceEq, Int.reduceToNat, Int.reduceAdd, Int.reduceSub, Int.reduceMul, Int.reduceNeg, reduceCtorEq, Option.bind_some, Option.map_some, List.length_cons, List.length_nil, vcM, List.getElem?_toArray, List.getElem?_cons_zero, List.getElem?_cons_succ])
  (refine W_at c8_ok ?_; refine ⟨_, rfl, ?_⟩; simp (disch := first | omega | assumption | rfl | (simp only [vcS] <;> omega) | fail) only [↓ptV_l, ↓vcA, vcB, ↓vcD, vcE, ↓reduceIte, Nat.reduceEqDiff, Nat.reduceAdd, Nat.reduceMul, Nat.reduceLeDiff, Int.reduceLE, Int.reduceLT, Int.reduceEq, Int.reduceToNat, Int.reduceAdd, Int.reduceSub, Int.reduceMul, Int.reduceNeg, reduceCtorEq, Option.bind_some, Option.map_some, List.length_cons, List.length_nil, vcM, List.getElem?_toArray, List.getElem?_cons_zero, List.getElem?_cons_succ])
  (refine W_at c8_ok ?_; refine ⟨_, rfl, ?_⟩; simp (disch := first | omega | assumption | rfl | (simp only [vcS] <;> omega) | fail) only [↓ptV_l, ↓vcA, vcB, ↓vcD, vcE, ↓reduceIte, Nat.reduceEqDiff, Nat.reduceAdd, Nat.reduceMul, Nat.reduceLeDiff, Int.reduceLE, Int.reduceLT, Int.reduceEq, Int.reduceToNat, Int.reduceAdd, Int.reduceSub, Int.reduceMul, Int.reduceNeg, reduceCtorEq, Option.bind_some, Option.map_some, List.length_cons, List.length_nil, vcM, List.getElem?_toArray, List.getElem?_cons_zero, List.getElem?_cons_succ])
  refine callV_ret (name_ok 0 _) ?_
  rintro _ w5 ⟨rfl, hE5⟩
  refine callV_ret (name_ok 1 _) ?_
  rintro _ w6 ⟨rfl, hE6⟩
  refine callV_ret (name_ok 2 _) ?_
  rintro _ w7 ⟨rfl, hE7⟩
  have hM7 := ((hM4.keep hE5).keep hE6).keep hE7
  have hn0 := nameC_size 0
  have hn1 := nameC_size 1
  have hn2 := nameC_size 2
  simp (disch := first | omega | assumption | rfl | (simp only [vcS] <;> omega) | fail) only [↓ptV_l, ↓vcA, vcB, ↓vcD, vcE, ↓reduceIte, Nat.reduceEqDiff, Nat.reduceAdd, Nat.reduceMul, Nat.reduceLeDiff, Int.reduceLE, Int.reduceLT, Int.reduceEq, Int.reduceToNat, Int.reduceAdd, Int.reduceSub, Int.reduceMul, Int.reduceNeg, reduceCtorEq, Option.bind_some, Option.map_some, List.length_cons, List.length_nil, vcM, List.getElem?_toArray, List.getElem?_cons_zero, List.getElem?_cons_succ, hn0, hn1, hn2]
  have hE8 : Ext w7 (w7.alloc (Obj.cells ((nameC 0).toList ++ ((nameC 1).toList ++ ((nameC 2).toList ++ []))).toArray 54)) := by (repeat' first | exact Keep.refl _ _ | assumption | refine Keep.drew ?_ | refine Keep.alloc ?_ _ | refine Keep.putN ?_ _ ?_ | refine Keep.setCell ?_ _ ?_ | refine Keep.setO ?_ _ ?_ | exact fun _ => Or.inl rfl | exact fun _ => Or.inr rfl | exact fun _ => rfl | (intro hh; exfalso; ((try simp only [vcS] at hh) <;> omega)))
  have hI : IdsAt 54 (w7.alloc (Obj.cells ((nameC 0).toList ++ ((nameC 1).toList ++ ((nameC 2).toList ++ []))).toArray 54)) (.slice (some ⟨w7.heap.size, 0, none⟩) 3 3) [nameC 0, nameC 1, nameC 2] := by
    refine ⟨⟨0, own_lit ?_ (by decide)⟩, ?_⟩
    · simp only [List.length_append, Array.length_toList, hn0, hn1, hn2, List.length_nil]
    · intro k hk; simp at hk; rcases hk with rfl | rfl | rfl <;> exact nameC_HK _
  have hM8 := hM7.keep hE8
  generalize World.alloc _ _ = w8 at hI hM8 ⊢
  refine callV_ret (block_ok w8 b _ m4 _ 2 _ _ hM8.book ?_ hI) ?_
  · intro e he; simp at he; rcases he with rfl | rfl | rfl <;> exact ⟨by decide, by decide⟩
  intro _ w9 hT
  rw [hits_aw] at hT
  obtain ⟨m9, hM9, _⟩ := hM8.step hT
  (refine W_at c8_ok ?_; refine ⟨_, rfl, ?_⟩; simp (disch := first | omega | assumption | rfl | (simp only [vcS] <;> omega) | fail) only [↓ptV_l, ↓vcA, vcB, ↓vcD, vcE, ↓reduceIte, Nat.reduceEqDiff, Nat.reduceAdd, Nat.reduceMul, Nat.reduceLeDiff, Int.reduceLE, Int.reduceLT, Int.reduceEq, Int.reduceToNat, Int.reduceAdd, Int.reduceSub, Int.reduceMul, Int.reduceNeg, reduceCtorEq, Option.bind_some, Option.map_some, List.length_cons, List.length_nil, vcM, List.getElem?_toArray, List.getElem?_cons_zero, List.getElem?_cons_succ])
  refine callV_ret (est_ok w9 b _ m9 _ 1 90 hM9.book) ?_
  rintro _ w10 ⟨rfl, hw⟩
  obtain rfl : w9 = w10 := hw.symm
  rw [est_aw]
  simp (disch := first | omega | assumption | rfl | (simp only [vcS] <;> omega) | fail) only [↓ptV_l, ↓vcA, vcB, ↓vcD, vcE, ↓reduceIte, Nat.reduceEqDiff, Nat.reduceAdd, Nat.reduceMul, Nat.reduceLeDiff, Int.reduceLE, Int.reduceLT, Int.reduceEq, Int.reduceToNat, Int.reduceAdd, Int.reduceSub, Int.reduceMul, Int.reduceNeg, reduceCtorEq, Option.bind_some, Option.map_some, List.length_cons, List.length_nil, vcM, List.getElem?_toArray, List.getElem?_cons_zero, List.getElem?_cons_succ]
  (refine W_at c8_ok ?_; refine ⟨_, rfl, ?_⟩; simp (disch := first | omega | assumption | rfl | (simp only [vcS] <;> omega) | fail) only [↓ptV_l, ↓vcA, vcB, ↓vcD, vcE, ↓reduceIte, Nat.reduceEqDiff, Nat.reduceAdd, Nat.reduceMul, Nat.reduceLeDiff, Int.reduceLE, Int.reduceLT, Int.reduceEq, Int.reduceToNat, Int.reduceAdd, Int.reduceSub, Int.reduceMul, Int.reduceNeg, reduceCtorEq, Option.bind_some, Option.map_some, List.length_cons, List.length_nil, vcM, List.getElem?_toArray, List.getElem?_cons_zero, List.getElem?_cons_succ])
  refine callV_ret (all_ok w9 b _ m9 _ 2 hM9.book) ?_
  rintro _ w10 ⟨rfl, hw⟩
  obtain rfl : w9 = w10 := hw.symm
  rw [if_pos (by omega), show (Int.toNat 2 * 13) = 26 from rfl, cAw_26]
  simp (disch := first | omega | assumption | rfl | (simp only [vcS] <;> omega) | fail) only [↓ptV_l, ↓vcA, vcB, ↓vcD, vcE, ↓reduceIte, Nat.reduceEqDiff, Nat.reduceAdd, Nat.reduceMul, Nat.reduceLeDiff, Int.reduceLE, Int.reduceLT, Int.reduceEq, Int.reduceToNat, Int.reduceAdd, Int.reduceSub, Int.reduceMul, Int.reduceNeg, reduceCtorEq, Option.bind_some, Option.map_some, List.length_cons, List.length_nil, vcM, List.getElem?_toArray, List.getElem?_cons_zero, List.getElem?_cons_succ]
  refine callV_ret (within_ok w9 b _ m9 _ 2 1 hM9.book) ?_
  rintro _ w10 ⟨rfl, hw⟩
  obtain rfl : w9 = w10 := hw.symm
  rw [if_pos (by omega), show (Int.toNat 2 * 13 + Int.toNat 1) = 27 from rfl, cAw_27]
  simp (disch := first | omega | assumption | rfl | (simp only [vcS] <;> omega) | fail) only [↓ptV_l, ↓vcA, vcB, ↓vcD, vcE, ↓reduceIte, Nat.reduceEqDiff, Nat.reduceAdd, Nat.reduceMul, Nat.reduceLeDiff, Int.reduceLE, Int.reduceLT, Int.reduceEq, Int.reduceToNat, Int.reduceAdd, Int.reduceSub, Int.reduceMul, Int.reduceNeg, reduceCtorEq, Option.bind_some, Option.map_some, List.length_cons, List.length_nil, vcM, List.getElem?_toArray, List.getElem?_cons_zero, List.getElem?_cons_succ]
  refine callV_ret (waits_ok w9 b _ m9 _ hM9.book) ?_
  rintro _ w10 ⟨rfl, hw⟩
  obtain rfl : w9 = w10 := hw.symm
  simp (disch := first | omega | assumption | rfl | (simp only [vcS] <;> omega) | fail) only [↓ptV_l, ↓vcA, vcB, ↓vcD, vcE, ↓reduceIte, Nat.reduceEqDiff, Nat.reduceAdd, Nat.reduceMul, Nat.reduceLeDiff, Int.reduceLE, Int.reduceLT, Int.reduceEq, Int.reduceToNat, Int.reduceAdd, Int.reduceSub, Int.reduceMul, Int.reduceNeg, reduceCtorEq, Option.bind_some, Option.map_some, List.length_cons, List.length_nil, vcM, List.getElem?_toArray, List.getElem?_cons_zero, List.getElem?_cons_succ, Int.natCast_zero]
  (refine W_at c8_ok ?_; refine ⟨_, rfl, ?_⟩; simp (disch := first | omega | assumption | rfl | (simp only [vcS] <;> omega) | fail) only [↓ptV_l, ↓vcA, vcB, ↓vcD, vcE, ↓reduceIte, Nat.reduceEqDiff, Nat.reduceAdd, Nat.reduceMul, Nat.reduceLeDiff, Int.reduceLE, Int.reduceLT, Int.reduceEq, Int.reduceToNat, Int.reduceAdd, Int.reduceSub, Int.reduceMul, Int.reduceNeg, reduceCtorEq, Option.bind_some, Option.map_some, List.length_cons, List.length_nil, vcM, List.getElem?_toArray, List.getElem?_cons_zero, List.getElem?_cons_succ, Ret_returned])
  exact hM9.ext
end Go.Proofs
