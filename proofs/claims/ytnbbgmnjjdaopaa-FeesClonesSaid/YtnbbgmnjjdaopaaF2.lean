/- The program's Enter, Forget. -/
import Derived.Test.YtnbbgmnjjdaopaaF1
import Derived.Test.YtnbbgmnjjdaopaaB0
set_option linter.unusedSimpArgs false
set_option linter.unusedVariables false
set_option linter.constructorNameAsVariable false
namespace Go.Proofs
open Go.Vc Go.Proofs.Fees
set_option maxRecDepth 10000

def Own (b : Nat) (m : Option Nat) (i : Nat) : Prop := i = b ∨ m = some i

theorem Fees.BookAt.ne {w : World} {b : Nat} {cnt : List Int} {m : Option Nat} {ws : List WE} (h : BookAt w b cnt m ws) : m ≠ some b := by
  rintro rfl
  obtain ⟨es, c, hr, _⟩ := h.2.2.1
  rw [h.1] at hr; cases hr

theorem Fees.WaitsAt.keep {S : Nat → Prop} {w w' : World} {m : Option Nat} {ws : List WE} (h : WaitsAt w m ws) (k : Keep S w w') (hm : ∀ r, m = some r → ¬ S r) : WaitsAt w' m ws := by
  cases m with
  | none => exact h
  | some r => obtain ⟨es, c, hr, he⟩ := h; exact ⟨es, c, k.at hr (hm r rfl), he⟩

theorem Fees.BookAt.keep {S : Nat → Prop} {w w' : World} {b : Nat} {cnt : List Int} {m : Option Nat} {ws : List WE} (h : BookAt w b cnt m ws) (k : Keep S w w') (hb : ¬ S b) (hm : ∀ r, m = some r → ¬ S r) :
    BookAt w' b cnt m ws := ⟨k.at h.1 hb, h.2.1, h.2.2.1.keep k hm, h.2.2.2⟩

theorem Fees.BookAt.lt {w : World} {b : Nat} {cnt : List Int} {m : Option Nat} {ws : List WE} (h : BookAt w b cnt m ws) : b < w.heap.size := lt_of_heap h.1
theorem Fees.BookAt.mlt {w : World} {b : Nat} {cnt : List Int} {m : Option Nat} {ws : List WE} (h : BookAt w b cnt m ws) : ∀ r, m = some r → r < w.heap.size := by
  rintro r rfl
  obtain ⟨es, c, hr, _⟩ := h.2.2.1
  exact lt_of_heap hr

noncomputable def entW (k : Array Value) (b : Nat) (h : Int) (ws : List WE) : List WE := match idxW k ws with | some _ => ws | none => addW k b h ws

def Fresh (w : World) (m m' : Option Nat) : Prop := m' = m ∨ ∃ r, m' = some r ∧ w.heap.size ≤ r
/-- What a step of the book leaves. -/
def BookTo (w : World) (b : Nat) (cnt : List Int) (m : Option Nat) (ws : List WE) (w' : World) : Prop :=
  ∃ m', BookAt w' b cnt m' ws ∧ Keep (Own b m) w w' ∧ Fresh w m m'

theorem Fees.BookAt.to {w w' : World} {b : Nat} {cnt : List Int} {m : Option Nat} {ws : List WE} (h : BookAt w b cnt m ws) (k : Ext w w') : BookTo w b cnt m ws w' :=
  ⟨m, h.keep k (fun h => h) (fun _ _ h => h), k.mono fun _ h => h.elim, .inl rfl⟩

theorem Fees.BookAt.wr {w : World} {b : Nat} {cnt : List Int} {m : Option Nat} {ws : List WE} (h : BookAt w b cnt m ws) {i : Nat} (hi : i < 313) : wr1 w b i :=
  wr1_of h.1 (by rw [size_bookC, h.2.1]; exact hi)
theorem Fees.BookAt.set {w : World} {b : Nat} {cnt : List Int} {m : Option Nat} {ws : List WE} (h : BookAt w b cnt m ws) {i : Nat} (hi : i < 312) (x : Int) :
    BookAt (w.setCell ⟨b, i, none⟩ (.int .i64 x)) b (cnt.set i x) m ws := by
  obtain ⟨h1, h2, h3, h4⟩ := h
  refine ⟨?_, by simp [h2], h3.keep (S := fun i => i = b) ((Keep.refl _ w).setCell _ fun _ => rfl) ?_, h4⟩
  · rw [heap_setCell_eq h1, bookC_set (by omega)]
  · rintro r rfl rfl
    exact Fees.BookAt.ne ⟨h1, h2, h3, h4⟩ rfl
theorem Fees.BookAt.setm {w : World} {b : Nat} {cnt : List Int} {m : Option Nat} {ws ws' : List WE} (h : BookAt w b cnt m ws) {r : Nat} (hr : WaitsAt w (some r) ws') (hs : HKs ws') :
    BookAt (w.setCell ⟨b, 312, none⟩ (.map (some r))) b cnt (some r) ws' := by
  obtain ⟨h1, h2, h3, h4⟩ := h
  refine ⟨?_, h2, hr.keep (S := fun i => i = b) ((Keep.refl _ w).setCell _ fun _ => rfl) ?_, hs⟩
  · rw [heap_setCell_eq h1, bookC_setm h2.symm]
  · rintro r' h rfl
    cases h
    obtain ⟨es, c, hr, _⟩ := hr
    rw [h1] at hr; cases hr

theorem HKs_add {k : Array Value} {b h : Int} {ws : List WE} (hs : HKs ws) (hk : HK k) : HKs (addW k b h ws) := by
  intro e he
  simp only [addW, List.mem_append, List.mem_singleton] at he
  rcases he with he | rfl
  · exact hs e he
  · exact hk
theorem HKs_del {k : Array Value} {ws : List WE} (hs : HKs ws) : HKs (delW k ws) := by
  intro e he
  unfold delW at he
  split at he
  · exact hs e (List.mem_of_mem_eraseIdx he)
  · exact hs e he

theorem enter_ok (w : World) (b : Nat) (cnt : List Int) (m : Option Nat) (ws : List WE) (k : Array Value) (r h : Int) (hb : BookAt w b cnt m ws) (hk : HK k) :
    Calls Try.prog 17 #[.pointer (some ⟨b, 0, none⟩), .agg k, .int .i64 r, .int .i64 h] w (Ret fun v w' => BookTo w b cnt m (entW k (bucketF r) h ws) w') := by
  obtain ⟨hbb, hl, hw, hs⟩ := hb
  refine calls_of_cfg c17_ok (Nat.le_of_ble_eq_true rfl) ?_
  simp only [argE_nil, argE_cons, Nat.reduceAdd, Nat.zero_add]
  have hks := HK_size hk
  have hkf := HK_flat hk
  have hblt := lt_of_heap hbb
  have h1 : (bookC cnt m)[312]? = some (.map m) := bookC_map hl.symm
  (refine W_at c17_ok ?_; refine ⟨_, rfl, ?_⟩; simp (disch := first | omega | assumption | rfl | (simp only [vcS] <;> omega) | fail) only [↓ptV_l, ↓vcA, vcB, ↓vcD, vcE, ↓reduceIte, Nat.reduceEqDiff, Nat.reduceAdd, Nat.reduceMul, Nat.reduceLeDiff, Int.reduceLE, Int.reduceLT, Int.reduceEq, Int.reduceToNat, Int.reduceAdd, Int.reduceSub, Int.reduceMul, Int.reduceNeg, reduceCtorEq, Option.bind_some, Option.map_some, List.length_cons, List.length_nil, vcM, List.getElem?_toArray, List.getElem?_cons_zero, List.getElem?_cons_succ, hks, hkf])
  have hl1 : ∀ w', Ext w w' → lkpR (skR [(32, .i .u8)]) true (zvR true [(2, .int .i64 0)]) true w' (.map m) (.agg k) = _ := fun w' hk' => lkp_waits (hw.keep hk' fun _ _ h => h) hs hk
  cases hq : idxW k ws with
  | some i =>
    obtain ⟨e, h2, h3⟩ := idxW_lt hq
    simp only [hq, Option.bind_some, h2, encV] at hl1
    have hz : entW k (bucketF r) h ws = ws := by simp only [entW, hq]
    (refine W_at c17_ok ?_; refine ⟨_, rfl, ?_⟩; simp (disch := first | omega | assumption | rfl | (simp only [vcS] <;> omega) | (repeat' first | exact Keep.refl _ _ | assumption | refine Keep.drew ?_ | refine Keep.alloc ?_ _ | refine Keep.putN ?_ _ ?_ | refine Keep.setCell ?_ _ ?_ | refine Keep.setO ?_ _ ?_ | exact fun _ => Or.inl rfl | exact fun _ => Or.inr rfl | exact fun _ => rfl | (intro hh; exfalso; ((try simp only [vcS] at hh) <;> omega)))) only [↓ptV_l, ↓vcA, vcB, ↓vcD, vcE, ↓reduceIte, Nat.reduceEqDiff, Nat.reduceAdd, Nat.reduceMul, Nat.reduceLeDiff, Int.reduceLE, Int.reduceLT, Int.reduceEq, Int.reduceToNat, Int.reduceAdd, Int.reduceSub, Int.reduceMul, Int.reduceNeg, reduceCtorEq, Option.bind_some, Option.map_some, List.length_cons, List.length_nil, vcM, List.getElem?_toArray, List.getElem?_cons_zero, List.getElem?_cons_succ, hbb, h1, ext_all, hks, hl1])
    (refine W_at c17_ok ?_; refine ⟨_, rfl, ?_⟩; simp (disch := first | omega | assumption | rfl | (simp only [vcS] <;> omega) | fail) only [↓ptV_l, ↓vcA, vcB, ↓vcD, vcE, ↓reduceIte, Nat.reduceEqDiff, Nat.reduceAdd, Nat.reduceMul, Nat.reduceLeDiff, Int.reduceLE, Int.reduceLT, Int.reduceEq, Int.reduceToNat, Int.reduceAdd, Int.reduceSub, Int.reduceMul, Int.reduceNeg, reduceCtorEq, Option.bind_some, Option.map_some, List.length_cons, List.length_nil, vcM, List.getElem?_toArray, List.getElem?_cons_zero, List.getElem?_cons_succ])
    (refine W_at c17_ok ?_; refine ⟨_, rfl, ?_⟩; simp (disch := first | omega | assumption | rfl | (simp only [vcS] <;> omega) | fail) only [↓ptV_l, ↓vcA, vcB, ↓vcD, vcE, ↓reduceIte, Nat.reduceEqDiff, Nat.reduceAdd, Nat.reduceMul, Nat.reduceLeDiff, Int.reduceLE, Int.reduceLT, Int.reduceEq, Int.reduceToNat, Int.reduceAdd, Int.reduceSub, Int.reduceMul, Int.reduceNeg, reduceCtorEq, Option.bind_some, Option.map_some, List.length_cons, List.length_nil, vcM, List.getElem?_toArray, List.getElem?_cons_zero, List.getElem?_cons_succ])
    (refine W_at c17_ok ?_; refine ⟨_, rfl, ?_⟩; simp (disch := first | omega | assumption | rfl | (simp only [vcS] <;> omega) | fail) only [↓ptV_l, ↓vcA, vcB, ↓vcD, vcE, ↓reduceIte, Nat.reduceEqDiff, Nat.reduceAdd, Nat.reduceMul, Nat.reduceLeDiff, Int.reduceLE, Int.reduceLT, Int.reduceEq, Int.reduceToNat, Int.reduceAdd, Int.reduceSub, Int.reduceMul, Int.reduceNeg, reduceCtorEq, Option.bind_some, Option.map_some, List.length_cons, List.length_nil, vcM, List.getElem?_toArray, List.getElem?_cons_zero, List.getElem?_cons_succ, Ret_returned])
    rw [hz]; exact Fees.BookAt.to ⟨hbb, hl, hw, hs⟩ (by (repeat' first | exact Keep.refl _ _ | assumption | refine Keep.drew ?_ | refine Keep.alloc ?_ _ | refine Keep.putN ?_ _ ?_ | refine Keep.setCell ?_ _ ?_ | refine Keep.setO ?_ _ ?_ | exact fun _ => Or.inl rfl | exact fun _ => Or.inr rfl | exact fun _ => rfl | (intro hh; exfalso; ((try simp only [vcS] at hh) <;> omega))))
  | none =>
    simp only [hq, Option.bind_none] at hl1
    have hz : entW k (bucketF r) h ws = addW k (bucketF r) h ws := by simp only [entW, hq]
    have H : ∀ (m' : Option Nat) (r' : Nat) (w1 : World) (p : Nat) (tl : Env), Fresh w m m' → m' = some r' → Keep (Own b m) w w1 → BookAt w1 b cnt m' ws → w1.heap[p]? = some (.cells k 54 (0, 0)) →
        W Try.prog (Ret fun v w' => BookTo w b cnt m (entW k (bucketF r) h ws) w') 17 1
          ((0, .pointer (some ⟨b, 0, none⟩)) :: (2, .int .i64 r) :: (3, .int .i64 h) :: (5, .pointer (some ⟨p, 0, none⟩)) :: tl) w1 := by
      intro m' r' w1 p tl hf hm' hk1 hb1 hp
      subst hm'
      obtain ⟨hbb1, _, hwa, _⟩ := hb1
      obtain ⟨es, c, hr, he⟩ := hwa
      have hne : b ≠ r' := by rintro rfl; rw [hbb1] at hr; cases hr
      have h1 : (bookC cnt (some r'))[312]? = some (.map (some r')) := bookC_map hl.symm
      refine W_at c17_ok ?_; refine ⟨_, rfl, ?_⟩
      simp (disch := first | omega | assumption | rfl | (simp only [vcS] <;> omega) | fail) only [↓ptV_l, ↓vcA, vcB, ↓vcD, vcE, ↓reduceIte, Nat.reduceEqDiff, Nat.reduceAdd, Nat.reduceMul, Nat.reduceLeDiff, Int.reduceLE, Int.reduceLT, Int.reduceEq, Int.reduceToNat, Int.reduceAdd, Int.reduceSub, Int.reduceMul, Int.reduceNeg, reduceCtorEq, Option.bind_some, Option.map_some, List.length_cons, List.length_nil, vcM, List.getElem?_toArray, List.getElem?_cons_zero, List.getElem?_cons_succ, hbb1, h1, hp, hks]
      refine callV_ret (bucket_ok r w1.drew) ?_
      rintro v w2 ⟨rfl, rfl⟩
      simp (disch := first | omega | assumption | rfl | (simp only [vcS] <;> omega) | fail) only [↓ptV_l, ↓vcA, vcB, ↓vcD, vcE, ↓reduceIte, Nat.reduceEqDiff, Nat.reduceAdd, Nat.reduceMul, Nat.reduceLeDiff, Int.reduceLE, Int.reduceLT, Int.reduceEq, Int.reduceToNat, Int.reduceAdd, Int.reduceSub, Int.reduceMul, Int.reduceNeg, reduceCtorEq, Option.bind_some, Option.map_some, List.length_cons, List.length_nil, vcM, List.getElem?_toArray, List.getElem?_cons_zero, List.getElem?_cons_succ, hbb1, h1, hp, hks]
      refine ⟨hk, ?_⟩
      have hr2 : w1.drew.heap[r']? = some (.map es c) := hr
      rw [mapE_waits hr2 he hs]
      refine W_at c17_ok ?_; refine ⟨_, rfl, ?_⟩
      simp (disch := first | omega | assumption | rfl | (simp only [vcS] <;> omega) | fail) only [↓ptV_l, ↓vcA, vcB, ↓vcD, vcE, ↓reduceIte, Nat.reduceEqDiff, Nat.reduceAdd, Nat.reduceMul, Nat.reduceLeDiff, Int.reduceLE, Int.reduceLT, Int.reduceEq, Int.reduceToNat, Int.reduceAdd, Int.reduceSub, Int.reduceMul, Int.reduceNeg, reduceCtorEq, Option.bind_some, Option.map_some, List.length_cons, List.length_nil, vcM, List.getElem?_toArray, List.getElem?_cons_zero, List.getElem?_cons_succ, Ret_returned]
      rw [hz]
      refine ⟨some r', ⟨?_, hl, put_waits hr2 he hq _ _, HKs_add hs hk⟩, ?_, hf⟩
      · rw [heap_setO_ne _ _ _ _ hne]; exact hbb1
      · refine (hk1.drew).setO _ fun hlt => ?_
        rcases hf with h | ⟨r2, h, h'⟩
        · exact .inr h.symm
        · cases h; omega
    (refine W_at c17_ok ?_; refine ⟨_, rfl, ?_⟩; simp (disch := first | omega | assumption | rfl | (simp only [vcS] <;> omega) | (repeat' first | exact Keep.refl _ _ | assumption | refine Keep.drew ?_ | refine Keep.alloc ?_ _ | refine Keep.putN ?_ _ ?_ | refine Keep.setCell ?_ _ ?_ | refine Keep.setO ?_ _ ?_ | exact fun _ => Or.inl rfl | exact fun _ => Or.inr rfl | exact fun _ => rfl | (intro hh; exfalso; ((try simp only [vcS] at hh) <;> omega)))) only [↓ptV_l, ↓vcA, vcB, ↓vcD, vcE, ↓reduceIte, Nat.reduceEqDiff, Nat.reduceAdd, Nat.reduceMul, Nat.reduceLeDiff, Int.reduceLE, Int.reduceLT, Int.reduceEq, Int.reduceToNat, Int.reduceAdd, Int.reduceSub, Int.reduceMul, Int.reduceNeg, reduceCtorEq, Option.bind_some, Option.map_some, List.length_cons, List.length_nil, vcM, List.getElem?_toArray, List.getElem?_cons_zero, List.getElem?_cons_succ, hbb, h1, ext_all, hks, hl1, zeroV])
    (refine W_at c17_ok ?_; refine ⟨_, rfl, ?_⟩; simp (disch := first | omega | assumption | rfl | (simp only [vcS] <;> omega) | fail) only [↓ptV_l, ↓vcA, vcB, ↓vcD, vcE, ↓reduceIte, Nat.reduceEqDiff, Nat.reduceAdd, Nat.reduceMul, Nat.reduceLeDiff, Int.reduceLE, Int.reduceLT, Int.reduceEq, Int.reduceToNat, Int.reduceAdd, Int.reduceSub, Int.reduceMul, Int.reduceNeg, reduceCtorEq, Option.bind_some, Option.map_some, List.length_cons, List.length_nil, vcM, List.getElem?_toArray, List.getElem?_cons_zero, List.getElem?_cons_succ])
    (refine W_at c17_ok ?_; refine ⟨_, rfl, ?_⟩; simp (disch := first | omega | assumption | rfl | (simp only [vcS] <;> omega) | fail) only [↓ptV_l, ↓vcA, vcB, ↓vcD, vcE, ↓reduceIte, Nat.reduceEqDiff, Nat.reduceAdd, Nat.reduceMul, Nat.reduceLeDiff, Int.reduceLE, Int.reduceLT, Int.reduceEq, Int.reduceToNat, Int.reduceAdd, Int.reduceSub, Int.reduceMul, Int.reduceNeg, reduceCtorEq, Option.bind_some, Option.map_some, List.length_cons, List.length_nil, vcM, List.getElem?_toArray, List.getElem?_cons_zero, List.getElem?_cons_succ])
    have hE : Ext w (((w.alloc (Obj.cells k 54)).drew.alloc (Obj.cells (zc [(2, Value.int IntKind.i64 0)]) 76)).putN (w.heap.size + 1) 0 #[Value.int IntKind.i64 0, Value.int IntKind.i64 0]) := by (repeat' first | exact Keep.refl _ _ | assumption | refine Keep.drew ?_ | refine Keep.alloc ?_ _ | refine Keep.putN ?_ _ ?_ | refine Keep.setCell ?_ _ ?_ | refine Keep.setO ?_ _ ?_ | exact fun _ => Or.inl rfl | exact fun _ => Or.inr rfl | exact fun _ => rfl | (intro hh; exfalso; ((try simp only [vcS] at hh) <;> omega)))
    have hp : (((w.alloc (Obj.cells k 54)).drew.alloc (Obj.cells (zc [(2, Value.int IntKind.i64 0)]) 76)).putN (w.heap.size + 1) 0 #[Value.int IntKind.i64 0, Value.int IntKind.i64 0]).heap[w.heap.size]? = some (.cells k 54 (0, 0)) := by
      simp (disch := first | omega | assumption | rfl | (simp only [vcS] <;> omega) | fail) only [↓ptV_l, ↓vcA, vcB, ↓vcD, vcE, ↓reduceIte, Nat.reduceEqDiff, Nat.reduceAdd, Nat.reduceMul, Nat.reduceLeDiff, Int.reduceLE, Int.reduceLT, Int.reduceEq, Int.reduceToNat, Int.reduceAdd, Int.reduceSub, Int.reduceMul, Int.reduceNeg, reduceCtorEq, Option.bind_some, Option.map_some, List.length_cons, List.length_nil, vcM, List.getElem?_toArray, List.getElem?_cons_zero, List.getElem?_cons_succ]
    generalize World.putN _ _ _ _ = w1 at hE hp ⊢
    have hb1 : BookAt w1 b cnt m ws := Fees.BookAt.keep ⟨hbb, hl, hw, hs⟩ hE (fun h => h) fun _ _ h => h
    have hbb1 := hb1.1
    have hlt1 := lt_of_heap hbb1
    have hltp := lt_of_heap hp
    cases m with
    | some r' =>
      (refine W_at c17_ok ?_; refine ⟨_, rfl, ?_⟩; simp (disch := first | omega | assumption | rfl | (simp only [vcS] <;> omega) | fail) only [↓ptV_l, ↓vcA, vcB, ↓vcD, vcE, ↓reduceIte, Nat.reduceEqDiff, Nat.reduceAdd, Nat.reduceMul, Nat.reduceLeDiff, Int.reduceLE, Int.reduceLT, Int.reduceEq, Int.reduceToNat, Int.reduceAdd, Int.reduceSub, Int.reduceMul, Int.reduceNeg, reduceCtorEq, Option.bind_some, Option.map_some, List.length_cons, List.length_nil, vcM, List.getElem?_toArray, List.getElem?_cons_zero, List.getElem?_cons_succ, hbb1, h1])
      (refine W_at c17_ok ?_; refine ⟨_, rfl, ?_⟩; simp (disch := first | omega | assumption | rfl | (simp only [vcS] <;> omega) | fail) only [↓ptV_l, ↓vcA, vcB, ↓vcD, vcE, ↓reduceIte, Nat.reduceEqDiff, Nat.reduceAdd, Nat.reduceMul, Nat.reduceLeDiff, Int.reduceLE, Int.reduceLT, Int.reduceEq, Int.reduceToNat, Int.reduceAdd, Int.reduceSub, Int.reduceMul, Int.reduceNeg, reduceCtorEq, Option.bind_some, Option.map_some, List.length_cons, List.length_nil, vcM, List.getElem?_toArray, List.getElem?_cons_zero, List.getElem?_cons_succ])
      exact H _ r' w1 _ [(24, .bool false)] (.inl rfl) rfl (hE.mono fun _ h => h.elim) hb1 hp
    | none =>
      have hws : ws = [] := hw
      subst hws
      (refine W_at c17_ok ?_; refine ⟨_, rfl, ?_⟩; simp (disch := first | omega | assumption | rfl | (simp only [vcS] <;> omega) | fail) only [↓ptV_l, ↓vcA, vcB, ↓vcD, vcE, ↓reduceIte, Nat.reduceEqDiff, Nat.reduceAdd, Nat.reduceMul, Nat.reduceLeDiff, Int.reduceLE, Int.reduceLT, Int.reduceEq, Int.reduceToNat, Int.reduceAdd, Int.reduceSub, Int.reduceMul, Int.reduceNeg, reduceCtorEq, Option.bind_some, Option.map_some, List.length_cons, List.length_nil, vcM, List.getElem?_toArray, List.getElem?_cons_zero, List.getElem?_cons_succ, hbb1, h1])
      (refine W_at c17_ok ?_; refine ⟨_, rfl, ?_⟩; simp (disch := first | omega | assumption | rfl | (simp only [vcS] <;> omega) | fail) only [↓ptV_l, ↓vcA, vcB, ↓vcD, vcE, ↓reduceIte, Nat.reduceEqDiff, Nat.reduceAdd, Nat.reduceMul, Nat.reduceLeDiff, Int.reduceLE, Int.reduceLT, Int.reduceEq, Int.reduceToNat, Int.reduceAdd, Int.reduceSub, Int.reduceMul, Int.reduceNeg, reduceCtorEq, Option.bind_some, Option.map_some, List.length_cons, List.length_nil, vcM, List.getElem?_toArray, List.getElem?_cons_zero, List.getElem?_cons_succ])
      (refine W_at c17_ok ?_; refine ⟨_, rfl, ?_⟩; simp (disch := first | omega | assumption | rfl | (simp only [vcS] <;> omega) | fail) only [↓ptV_l, ↓vcA, vcB, ↓vcD, vcE, ↓reduceIte, Nat.reduceEqDiff, Nat.reduceAdd, Nat.reduceMul, Nat.reduceLeDiff, Int.reduceLE, Int.reduceLT, Int.reduceEq, Int.reduceToNat, Int.reduceAdd, Int.reduceSub, Int.reduceMul, Int.reduceNeg, reduceCtorEq, Option.bind_some, Option.map_some, List.length_cons, List.length_nil, vcM, List.getElem?_toArray, List.getElem?_cons_zero, List.getElem?_cons_succ])
      have hb2 : BookAt (w1.alloc (Obj.map #[] 0)) b cnt none [] := hb1.keep (S := fun _ => False) (by (repeat' first | exact Keep.refl _ _ | assumption | refine Keep.drew ?_ | refine Keep.alloc ?_ _ | refine Keep.putN ?_ _ ?_ | refine Keep.setCell ?_ _ ?_ | refine Keep.setO ?_ _ ?_ | exact fun _ => Or.inl rfl | exact fun _ => Or.inr rfl | exact fun _ => rfl | (intro hh; exfalso; ((try simp only [vcS] at hh) <;> omega)))) (fun h => h) fun _ _ h => h
      refine ⟨hb2.wr (by omega), H _ _ _ _ [] (.inr ⟨w1.heap.size, rfl, hE.size⟩) rfl ?_ (hb2.setm ⟨#[], 0, heap_new _ _ _ rfl, EsIs.nil 0⟩ hs) ?_⟩
      · exact Keep.setCell (Keep.alloc (hE.mono fun _ h => h.elim) _) _ fun _ => .inl rfl
      · simp (disch := first | omega | assumption | rfl | (simp only [vcS] <;> omega) | fail) only [↓ptV_l, ↓vcA, vcB, ↓vcD, vcE, ↓reduceIte, Nat.reduceEqDiff, Nat.reduceAdd, Nat.reduceMul, Nat.reduceLeDiff, Int.reduceLE, Int.reduceLT, Int.reduceEq, Int.reduceToNat, Int.reduceAdd, Int.reduceSub, Int.reduceMul, Int.reduceNeg, reduceCtorEq, Option.bind_some, Option.map_some, List.length_cons, List.length_nil, vcM, List.getElem?_toArray, List.getElem?_cons_zero, List.getElem?_cons_succ]
        exact hp

theorem forget_ok (w : World) (b : Nat) (cnt : List Int) (m : Option Nat) (ws : List WE) (k : Array Value) (hb : BookAt w b cnt m ws) (hk : HK k) :
    Calls Try.prog 23 #[.pointer (some ⟨b, 0, none⟩), .agg k] w (Ret fun v w' => BookTo w b cnt m (delW k ws) w') := by
  have hb' := hb
  obtain ⟨hbb, hl, hw, hs⟩ := hb
  refine calls_of_cfg c23_ok (Nat.le_of_ble_eq_true rfl) ?_
  simp only [argE_nil, argE_cons, Nat.reduceAdd, Nat.zero_add]
  have hks := HK_size hk
  have hkf := HK_flat hk
  have hblt := lt_of_heap hbb
  have h1 : (bookC cnt m)[312]? = some (.map m) := bookC_map hl.symm
  (refine W_at c23_ok ?_; refine ⟨_, rfl, ?_⟩; simp (disch := first | omega | assumption | rfl | (simp only [vcS] <;> omega) | fail) only [↓ptV_l, ↓vcA, vcB, ↓vcD, vcE, ↓reduceIte, Nat.reduceEqDiff, Nat.reduceAdd, Nat.reduceMul, Nat.reduceLeDiff, Int.reduceLE, Int.reduceLT, Int.reduceEq, Int.reduceToNat, Int.reduceAdd, Int.reduceSub, Int.reduceMul, Int.reduceNeg, reduceCtorEq, Option.bind_some, Option.map_some, List.length_cons, List.length_nil, vcM, List.getElem?_toArray, List.getElem?_cons_zero, List.getElem?_cons_succ, hks, hkf])
  (refine W_at c23_ok ?_; refine ⟨_, rfl, ?_⟩; simp (disch := first | omega | assumption | rfl | (simp only [vcS] <;> omega) | fail) only [↓ptV_l, ↓vcA, vcB, ↓vcD, vcE, ↓reduceIte, Nat.reduceEqDiff, Nat.reduceAdd, Nat.reduceMul, Nat.reduceLeDiff, Int.reduceLE, Int.reduceLT, Int.reduceEq, Int.reduceToNat, Int.reduceAdd, Int.reduceSub, Int.reduceMul, Int.reduceNeg, reduceCtorEq, Option.bind_some, Option.map_some, List.length_cons, List.length_nil, vcM, List.getElem?_toArray, List.getElem?_cons_zero, List.getElem?_cons_succ, hbb, h1, hks])
  cases m with
  | none =>
    refine ⟨hk, ?_⟩
    (refine W_at c23_ok ?_; refine ⟨_, rfl, ?_⟩; simp (disch := first | omega | assumption | rfl | (simp only [vcS] <;> omega) | fail) only [↓ptV_l, ↓vcA, vcB, ↓vcD, vcE, ↓reduceIte, Nat.reduceEqDiff, Nat.reduceAdd, Nat.reduceMul, Nat.reduceLeDiff, Int.reduceLE, Int.reduceLT, Int.reduceEq, Int.reduceToNat, Int.reduceAdd, Int.reduceSub, Int.reduceMul, Int.reduceNeg, reduceCtorEq, Option.bind_some, Option.map_some, List.length_cons, List.length_nil, vcM, List.getElem?_toArray, List.getElem?_cons_zero, List.getElem?_cons_succ, Ret_returned])
    have hws : ws = [] := hw
    subst hws
    exact Fees.BookAt.to hb' (by (repeat' first | exact Keep.refl _ _ | assumption | refine Keep.drew ?_ | refine Keep.alloc ?_ _ | refine Keep.putN ?_ _ ?_ | refine Keep.setCell ?_ _ ?_ | refine Keep.setO ?_ _ ?_ | exact fun _ => Or.inl rfl | exact fun _ => Or.inr rfl | exact fun _ => rfl | (intro hh; exfalso; ((try simp only [vcS] at hh) <;> omega))))
  | some r =>
    refine ⟨hk, ?_⟩
    obtain ⟨es, c, hr, he⟩ := hw
    have hrl := lt_of_heap hr
    have hr2 : ((w.alloc (Obj.cells k 54)).drew).heap[r]? = some (.map es c) := by simp (disch := first | omega | assumption | rfl | (simp only [vcS] <;> omega) | fail) only [↓ptV_l, ↓vcA, vcB, ↓vcD, vcE, ↓reduceIte, Nat.reduceEqDiff, Nat.reduceAdd, Nat.reduceMul, Nat.reduceLeDiff, Int.reduceLE, Int.reduceLT, Int.reduceEq, Int.reduceToNat, Int.reduceAdd, Int.reduceSub, Int.reduceMul, Int.reduceNeg, reduceCtorEq, Option.bind_some, Option.map_some, List.length_cons, List.length_nil, vcM, List.getElem?_toArray, List.getElem?_cons_zero, List.getElem?_cons_succ, hr]
    rw [mapE_waits hr2 he hs]
    (refine W_at c23_ok ?_; refine ⟨_, rfl, ?_⟩; simp (disch := first | omega | assumption | rfl | (simp only [vcS] <;> omega) | fail) only [↓ptV_l, ↓vcA, vcB, ↓vcD, vcE, ↓reduceIte, Nat.reduceEqDiff, Nat.reduceAdd, Nat.reduceMul, Nat.reduceLeDiff, Int.reduceLE, Int.reduceLT, Int.reduceEq, Int.reduceToNat, Int.reduceAdd, Int.reduceSub, Int.reduceMul, Int.reduceNeg, reduceCtorEq, Option.bind_some, Option.map_some, List.length_cons, List.length_nil, vcM, List.getElem?_toArray, List.getElem?_cons_zero, List.getElem?_cons_succ, Ret_returned])
    have hne : b ≠ r := by rintro rfl; rw [hbb] at hr; cases hr
    refine ⟨some r, ⟨?_, hl, del_waits hr2 he, HKs_del hs⟩, by (repeat' first | exact Keep.refl _ _ | assumption | refine Keep.drew ?_ | refine Keep.alloc ?_ _ | refine Keep.putN ?_ _ ?_ | refine Keep.setCell ?_ _ ?_ | refine Keep.setO ?_ _ ?_ | exact fun _ => Or.inl rfl | exact fun _ => Or.inr rfl | exact fun _ => rfl | (intro hh; exfalso; ((try simp only [vcS] at hh) <;> omega))), .inl rfl⟩
    simp (disch := first | omega | assumption | rfl | (simp only [vcS] <;> omega) | fail) only [↓ptV_l, ↓vcA, vcB, ↓vcD, vcE, ↓reduceIte, Nat.reduceEqDiff, Nat.reduceAdd, Nat.reduceMul, Nat.reduceLeDiff, Int.reduceLE, Int.reduceLT, Int.reduceEq, Int.reduceToNat, Int.reduceAdd, Int.reduceSub, Int.reduceMul, Int.reduceNeg, reduceCtorEq, Option.bind_some, Option.map_some, List.length_cons, List.length_nil, vcM, List.getElem?_toArray, List.getElem?_cons_zero, List.getElem?_cons_succ, hbb]
end Go.Proofs
