/- The program's Block: the second half. -/
import Derived.Test.YtnbbgmnjjdaopaaF3
set_option linter.unusedSimpArgs false
set_option linter.unusedVariables false
set_option linter.constructorNameAsVariable false
namespace Go.Proofs
open Go.Vc Go.Proofs.Fees
set_option maxRecDepth 10000

/-- Names, in a row of one's own. -/
def IdsAt (el : TypeId) (w : World) (v : Value) (ids : List (Array Value)) : Prop := (∃ base, w.ownsRow base el 32 v ids.length (ids.flatMap Array.toList)) ∧ ∀ k ∈ ids, HK k

def waitedF (h e : Int) : Int := if e < h then IntKind.u64.wrap (IntKind.u64.wrap h - IntKind.u64.wrap e) else 1
def hitT (o : Nat) (wd : Int) : Nat → List Int → List Int
  | 0, c => c
  | t + 1, c => if wd ≤ (t : Int) + 1 then (hitT o wd t c).set (o + 1 + t) (IntKind.i64.wrap ((hitT o wd t c).getD (o + 1 + t) 0 + 1000)) else hitT o wd t c
def hitC (h : Int) (e : WE) (c : List Int) : List Int := hitT (e.2.1.toNat * 13) (waitedF h e.2.2) 12 (c.set (e.2.1.toNat * 13) (IntKind.i64.wrap (c.getD (e.2.1.toNat * 13) 0 + 1000)))
noncomputable def hits (h : Int) : List (Array Value) → List Int → List WE → List Int × List WE
  | [], c, ws => (c, ws)
  | k :: ks, c, ws => match (idxW k ws).bind (ws[·]?) with
    | none => hits h ks c ws
    | some e => hits h ks (hitC h e c) (delW k ws)

def BOK (ws : List WE) : Prop := ∀ e ∈ ws, 0 ≤ e.2.1 ∧ e.2.1 < 24
theorem BOK_del {k : Array Value} {ws : List WE} (hs : BOK ws) : BOK (delW k ws) := by
  intro e he
  unfold delW at he
  split at he
  · exact hs e (List.mem_of_mem_eraseIdx he)
  · exact hs e he

theorem blockB (w : World) (b : Nat) (cnt : List Int) (m : Option Nat) (ws : List WE) (h : Int) (v : Value) (ids : List (Array Value)) (hb : BookAt w b cnt m ws) (hB : BOK ws) (hI : IdsAt 54 w v ids) (tl : Env) :
    W Try.prog (Ret fun v w' => BookTo w b (hits h ids cnt ws).1 m (hits h ids cnt ws).2 w') 18 25 ((0, .pointer (some ⟨b, 0, none⟩)) :: (1, .int .i64 h) :: (2, v) :: tl) w := by
  obtain ⟨⟨base, hI⟩, hks⟩ := hI
  have hlen : lenR v = some (.int .i64 ids.length) := by
    obtain ⟨_, ⟨rfl, h0⟩ | ⟨g, cap, cur, rfl, _⟩⟩ := hI
    · rw [h0]; rfl
    · rfl
  have H : ∀ (n j : Nat) (w1 : World) (c : List Int) (ws1 : List WE), n + j = ids.length → BookAt w1 b c m ws1 → BOK ws1 → Keep (Own b m) w w1 → hits h (ids.drop j) c ws1 = hits h ids cnt ws →
      W Try.prog (Ret fun v w' => BookTo w b (hits h ids cnt ws).1 m (hits h ids cnt ws).2 w') 18 24
        [(0, .pointer (some ⟨b, 0, none⟩)), (1, .int .i64 h), (50, v), (51, .int .i64 ids.length), (52, .int .i64 j)] w1 := by
    intro n
    induction n with
    | zero =>
      intro j w1 c ws1 hj hb1 hB1 hk1 he
      have hj' : ¬ ((j : Int) < (ids.length : Int)) := by omega
      (refine W_at c18_ok ?_; refine ⟨_, rfl, ?_⟩; simp (disch := first | omega | assumption | rfl | (simp only [vcS] <;> omega) | fail) only [↓ptV_l, ↓vcA, vcB, ↓vcD, vcE, ↓reduceIte, Nat.reduceEqDiff, Nat.reduceAdd, Nat.reduceMul, Nat.reduceLeDiff, Int.reduceLE, Int.reduceLT, Int.reduceEq, Int.reduceToNat, Int.reduceAdd, Int.reduceSub, Int.reduceMul, Int.reduceNeg, reduceCtorEq, Option.bind_some, Option.map_some, List.length_cons, List.length_nil, vcM, List.getElem?_toArray, List.getElem?_cons_zero, List.getElem?_cons_succ, hj'])
      (refine W_at c18_ok ?_; refine ⟨_, rfl, ?_⟩; simp (disch := first | omega | assumption | rfl | (simp only [vcS] <;> omega) | fail) only [↓ptV_l, ↓vcA, vcB, ↓vcD, vcE, ↓reduceIte, Nat.reduceEqDiff, Nat.reduceAdd, Nat.reduceMul, Nat.reduceLeDiff, Int.reduceLE, Int.reduceLT, Int.reduceEq, Int.reduceToNat, Int.reduceAdd, Int.reduceSub, Int.reduceMul, Int.reduceNeg, reduceCtorEq, Option.bind_some, Option.map_some, List.length_cons, List.length_nil, vcM, List.getElem?_toArray, List.getElem?_cons_zero, List.getElem?_cons_succ])
      (refine W_at c18_ok ?_; refine ⟨_, rfl, ?_⟩; simp (disch := first | omega | assumption | rfl | (simp only [vcS] <;> omega) | fail) only [↓ptV_l, ↓vcA, vcB, ↓vcD, vcE, ↓reduceIte, Nat.reduceEqDiff, Nat.reduceAdd, Nat.reduceMul, Nat.reduceLeDiff, Int.reduceLE, Int.reduceLT, Int.reduceEq, Int.reduceToNat, Int.reduceAdd, Int.reduceSub, Int.reduceMul, Int.reduceNeg, reduceCtorEq, Option.bind_some, Option.map_some, List.length_cons, List.length_nil, vcM, List.getElem?_toArray, List.getElem?_cons_zero, List.getElem?_cons_succ, Ret_returned])
      rw [List.drop_eq_nil_of_le (by omega)] at he
      rw [← he]
      exact ⟨m, hb1, hk1, .inl rfl⟩
    | succ n ih =>
      intro j w1 c ws1 hj hb1 hB1 hk1 he
      have hj' : (j : Int) < (ids.length : Int) := by omega
      have hj2 : 0 ≤ (j : Int) ∧ (j : Int) < (ids.length : Int) := by omega
      have hjn : j < ids.length := by omega
      obtain ⟨g, cap, cur, rfl, hg, hle, hext, hbg, hmax⟩ := own_at hI (fun k hk => HK_size (hks k hk)) hjn
      have hk := hks _ (List.getElem_mem hjn)
      rw [List.drop_eq_getElem_cons hjn] at he
      generalize ids[j] = k at hk he hext
      have hng : ¬ Own b m g := by
        rintro (rfl | rfl)
        · rw [hb.1] at hg; cases hg
        · obtain ⟨es, c, hr, _⟩ := hb.2.2.1
          rw [hg] at hr; cases hr
      have hg1 := hk1.at hg hng
      have hks' := HK_size hk
      have hkf := HK_flat hk
      obtain ⟨hbb1, hl1, hw1, hs1⟩ := hb1
      have hblt := lt_of_heap hbb1
      have hglt := lt_of_heap hg1
      have h1 : (bookC c m)[312]? = some (.map m) := bookC_map hl1.symm
      (refine W_at c18_ok ?_; refine ⟨_, rfl, ?_⟩; simp (disch := first | omega | assumption | rfl | (simp only [vcS] <;> omega) | fail) only [↓ptV_l, ↓vcA, vcB, ↓vcD, vcE, ↓reduceIte, Nat.reduceEqDiff, Nat.reduceAdd, Nat.reduceMul, Nat.reduceLeDiff, Int.reduceLE, Int.reduceLT, Int.reduceEq, Int.reduceToNat, Int.reduceAdd, Int.reduceSub, Int.reduceMul, Int.reduceNeg, reduceCtorEq, Option.bind_some, Option.map_some, List.length_cons, List.length_nil, vcM, List.getElem?_toArray, List.getElem?_cons_zero, List.getElem?_cons_succ, hj'])
      (refine W_at c18_ok ?_; refine ⟨_, rfl, ?_⟩; simp (disch := first | omega | assumption | rfl | (simp only [vcS] <;> omega) | fail) only [↓ptV_l, ↓vcA, vcB, ↓vcD, vcE, ↓reduceIte, Nat.reduceEqDiff, Nat.reduceAdd, Nat.reduceMul, Nat.reduceLeDiff, Int.reduceLE, Int.reduceLT, Int.reduceEq, Int.reduceToNat, Int.reduceAdd, Int.reduceSub, Int.reduceMul, Int.reduceNeg, reduceCtorEq, Option.bind_some, Option.map_some, List.length_cons, List.length_nil, vcM, List.getElem?_toArray, List.getElem?_cons_zero, List.getElem?_cons_succ])
      (refine W_at c18_ok ?_; refine ⟨_, rfl, ?_⟩; simp (disch := first | omega | assumption | rfl | (simp only [vcS] <;> omega) | fail) only [↓ptV_l, ↓vcA, vcB, ↓vcD, vcE, ↓reduceIte, Nat.reduceEqDiff, Nat.reduceAdd, Nat.reduceMul, Nat.reduceLeDiff, Int.reduceLE, Int.reduceLT, Int.reduceEq, Int.reduceToNat, Int.reduceAdd, Int.reduceSub, Int.reduceMul, Int.reduceNeg, reduceCtorEq, Option.bind_some, Option.map_some, List.length_cons, List.length_nil, vcM, List.getElem?_toArray, List.getElem?_cons_zero, List.getElem?_cons_succ, hj2, Int.toNat_natCast, hg1, hext, hks', hkf])
      have hp := heap_local w1 (c0 := zc [(32, Value.int IntKind.u8 0)]) (t := 54) (k := k) (by rw [size_zc1, hks'])
      have hE : Ext w1 ((w1.alloc (Obj.cells (zc [(32, Value.int IntKind.u8 0)]) 54)).putN w1.heap.size 0 k) := by (repeat' first | exact Keep.refl _ _ | assumption | refine Keep.drew ?_ | refine Keep.alloc ?_ _ | refine Keep.putN ?_ _ ?_ | refine Keep.setCell ?_ _ ?_ | refine Keep.setO ?_ _ ?_ | exact fun _ => Or.inl rfl | exact fun _ => Or.inr rfl | exact fun _ => rfl | (intro hh; exfalso; ((try simp only [vcS] at hh) <;> omega)))
      generalize World.putN _ _ _ _ = w2 at hp hE ⊢
      have hl2 : ∀ w', Ext w2 w' → lkpR (skR [(32, .i .u8)]) true (zvR true [(2, .int .i64 0)]) true w' (.map m) (.agg k) = _ := fun w' hk' => lkp_waits (hw1.keep (hE.ext hk') fun _ _ h => h) hs1 hk
      have hbb2 := hE.at hbb1 (fun h => h)
      have hblt2 := lt_of_heap hbb2
      have hpl := lt_of_heap hp
      have hwj : IntKind.i64.wrap ((j : Int) + 1) = ((j + 1 : Nat) : Int) := wrap_i64 (by omega) (by simp only [maxLen] at hmax; omega)
      have hb1 : BookAt w1 b c m ws1 := ⟨hbb1, hl1, hw1, hs1⟩
      cases hq : idxW k ws1 with
      | none =>
        simp only [hq, Option.bind_none] at hl2
        (refine W_at c18_ok ?_; refine ⟨_, rfl, ?_⟩; simp (disch := first | omega | assumption | rfl | (simp only [vcS] <;> omega) | (repeat' first | exact Keep.refl _ _ | assumption | refine Keep.drew ?_ | refine Keep.alloc ?_ _ | refine Keep.putN ?_ _ ?_ | refine Keep.setCell ?_ _ ?_ | refine Keep.setO ?_ _ ?_ | exact fun _ => Or.inl rfl | exact fun _ => Or.inr rfl | exact fun _ => rfl | (intro hh; exfalso; ((try simp only [vcS] at hh) <;> omega)))) only [↓ptV_l, ↓vcA, vcB, ↓vcD, vcE, ↓reduceIte, Nat.reduceEqDiff, Nat.reduceAdd, Nat.reduceMul, Nat.reduceLeDiff, Int.reduceLE, Int.reduceLT, Int.reduceEq, Int.reduceToNat, Int.reduceAdd, Int.reduceSub, Int.reduceMul, Int.reduceNeg, reduceCtorEq, Option.bind_some, Option.map_some, List.length_cons, List.length_nil, vcM, List.getElem?_toArray, List.getElem?_cons_zero, List.getElem?_cons_succ, hbb2, h1, hp, hks', ext_all, hl2, zeroV])
        have hE3 : Ext w2 ((w2.drew.alloc (Obj.cells (zc [(2, Value.int IntKind.i64 0)]) 76)).putN w2.heap.size 0 #[Value.int IntKind.i64 0, Value.int IntKind.i64 0]) := by (repeat' first | exact Keep.refl _ _ | assumption | refine Keep.drew ?_ | refine Keep.alloc ?_ _ | refine Keep.putN ?_ _ ?_ | refine Keep.setCell ?_ _ ?_ | refine Keep.setO ?_ _ ?_ | exact fun _ => Or.inl rfl | exact fun _ => Or.inr rfl | exact fun _ => rfl | (intro hh; exfalso; ((try simp only [vcS] at hh) <;> omega)))
        generalize World.putN _ _ _ _ = w3 at hE3 ⊢
        (refine W_at c18_ok ?_; refine ⟨_, rfl, ?_⟩; simp (disch := first | omega | assumption | rfl | (simp only [vcS] <;> omega) | fail) only [↓ptV_l, ↓vcA, vcB, ↓vcD, vcE, ↓reduceIte, Nat.reduceEqDiff, Nat.reduceAdd, Nat.reduceMul, Nat.reduceLeDiff, Int.reduceLE, Int.reduceLT, Int.reduceEq, Int.reduceToNat, Int.reduceAdd, Int.reduceSub, Int.reduceMul, Int.reduceNeg, reduceCtorEq, Option.bind_some, Option.map_some, List.length_cons, List.length_nil, vcM, List.getElem?_toArray, List.getElem?_cons_zero, List.getElem?_cons_succ])
        (refine W_at c18_ok ?_; refine ⟨_, rfl, ?_⟩; simp (disch := first | omega | assumption | rfl | (simp only [vcS] <;> omega) | fail) only [↓ptV_l, ↓vcA, vcB, ↓vcD, vcE, ↓reduceIte, Nat.reduceEqDiff, Nat.reduceAdd, Nat.reduceMul, Nat.reduceLeDiff, Int.reduceLE, Int.reduceLT, Int.reduceEq, Int.reduceToNat, Int.reduceAdd, Int.reduceSub, Int.reduceMul, Int.reduceNeg, reduceCtorEq, Option.bind_some, Option.map_some, List.length_cons, List.length_nil, vcM, List.getElem?_toArray, List.getElem?_cons_zero, List.getElem?_cons_succ])
        (refine W_at c18_ok ?_; refine ⟨_, rfl, ?_⟩; simp (disch := first | omega | assumption | rfl | (simp only [vcS] <;> omega) | fail) only [↓ptV_l, ↓vcA, vcB, ↓vcD, vcE, ↓reduceIte, Nat.reduceEqDiff, Nat.reduceAdd, Nat.reduceMul, Nat.reduceLeDiff, Int.reduceLE, Int.reduceLT, Int.reduceEq, Int.reduceToNat, Int.reduceAdd, Int.reduceSub, Int.reduceMul, Int.reduceNeg, reduceCtorEq, Option.bind_some, Option.map_some, List.length_cons, List.length_nil, vcM, List.getElem?_toArray, List.getElem?_cons_zero, List.getElem?_cons_succ, hwj])
        (refine W_at c18_ok ?_; refine ⟨_, rfl, ?_⟩; simp (disch := first | omega | assumption | rfl | (simp only [vcS] <;> omega) | fail) only [↓ptV_l, ↓vcA, vcB, ↓vcD, vcE, ↓reduceIte, Nat.reduceEqDiff, Nat.reduceAdd, Nat.reduceMul, Nat.reduceLeDiff, Int.reduceLE, Int.reduceLT, Int.reduceEq, Int.reduceToNat, Int.reduceAdd, Int.reduceSub, Int.reduceMul, Int.reduceNeg, reduceCtorEq, Option.bind_some, Option.map_some, List.length_cons, List.length_nil, vcM, List.getElem?_toArray, List.getElem?_cons_zero, List.getElem?_cons_succ])
        refine ih (j + 1) w3 c ws1 (by omega) (hb1.keep (hE.ext hE3) (fun h => h) fun _ _ h => h) hB1 (hk1.ext (hE.ext hE3)) ?_
        rw [← he]; simp only [hits, hq, Option.bind_none]
      | some i =>
        obtain ⟨e, hei, hek⟩ := idxW_lt hq
        simp only [hq, Option.bind_some, hei, encV] at hl2
        (refine W_at c18_ok ?_; refine ⟨_, rfl, ?_⟩; simp (disch := first | omega | assumption | rfl | (simp only [vcS] <;> omega) | (repeat' first | exact Keep.refl _ _ | assumption | refine Keep.drew ?_ | refine Keep.alloc ?_ _ | refine Keep.putN ?_ _ ?_ | refine Keep.setCell ?_ _ ?_ | refine Keep.setO ?_ _ ?_ | exact fun _ => Or.inl rfl | exact fun _ => Or.inr rfl | exact fun _ => rfl | (intro hh; exfalso; ((try simp only [vcS] at hh) <;> omega)))) only [↓ptV_l, ↓vcA, vcB, ↓vcD, vcE, ↓reduceIte, Nat.reduceEqDiff, Nat.reduceAdd, Nat.reduceMul, Nat.reduceLeDiff, Int.reduceLE, Int.reduceLT, Int.reduceEq, Int.reduceToNat, Int.reduceAdd, Int.reduceSub, Int.reduceMul, Int.reduceNeg, reduceCtorEq, Option.bind_some, Option.map_some, List.length_cons, List.length_nil, vcM, List.getElem?_toArray, List.getElem?_cons_zero, List.getElem?_cons_succ, hbb2, h1, hp, hks', ext_all, hl2])
        have hp3 := heap_local w2.drew (c0 := zc [(2, Value.int IntKind.i64 0)]) (t := 76) (k := #[Value.int IntKind.i64 e.2.1, Value.int IntKind.i64 e.2.2]) (by rw [size_zc1]; rfl)
        have hE3 : Ext w2 ((w2.drew.alloc (Obj.cells (zc [(2, Value.int IntKind.i64 0)]) 76)).putN w2.heap.size 0 #[Value.int IntKind.i64 e.2.1, Value.int IntKind.i64 e.2.2]) := by (repeat' first | exact Keep.refl _ _ | assumption | refine Keep.drew ?_ | refine Keep.alloc ?_ _ | refine Keep.putN ?_ _ ?_ | refine Keep.setCell ?_ _ ?_ | refine Keep.setO ?_ _ ?_ | exact fun _ => Or.inl rfl | exact fun _ => Or.inr rfl | exact fun _ => rfl | (intro hh; exfalso; ((try simp only [vcS] at hh) <;> omega)))
        rw [heap_drw] at hp3
        generalize World.putN _ _ _ _ = w3 at hp3 hE3 ⊢
        have hbb3 := hE3.at hbb2 (fun h => h)
        have hp' := hE3.at hp (fun h => h)
        have hb3 : BookAt w3 b c m ws1 := hb1.keep (hE.ext hE3) (fun h => h) fun _ _ h => h
        have hk3 := hk1.ext (hE.ext hE3)
        have hn2 : ¬ Own b m w2.heap.size := by
          rintro (h | h)
          · omega
          · have := hb1.mlt _ h; have := hE.size; omega
        (refine W_at c18_ok ?_; refine ⟨_, rfl, ?_⟩; simp (disch := first | omega | assumption | rfl | (simp only [vcS] <;> omega) | fail) only [↓ptV_l, ↓vcA, vcB, ↓vcD, vcE, ↓reduceIte, Nat.reduceEqDiff, Nat.reduceAdd, Nat.reduceMul, Nat.reduceLeDiff, Int.reduceLE, Int.reduceLT, Int.reduceEq, Int.reduceToNat, Int.reduceAdd, Int.reduceSub, Int.reduceMul, Int.reduceNeg, reduceCtorEq, Option.bind_some, Option.map_some, List.length_cons, List.length_nil, vcM, List.getElem?_toArray, List.getElem?_cons_zero, List.getElem?_cons_succ])
        (refine W_at c18_ok ?_; refine ⟨_, rfl, ?_⟩; simp (disch := first | omega | assumption | rfl | (simp only [vcS] <;> omega) | fail) only [↓ptV_l, ↓vcA, vcB, ↓vcD, vcE, ↓reduceIte, Nat.reduceEqDiff, Nat.reduceAdd, Nat.reduceMul, Nat.reduceLeDiff, Int.reduceLE, Int.reduceLT, Int.reduceEq, Int.reduceToNat, Int.reduceAdd, Int.reduceSub, Int.reduceMul, Int.reduceNeg, reduceCtorEq, Option.bind_some, Option.map_some, List.length_cons, List.length_nil, vcM, List.getElem?_toArray, List.getElem?_cons_zero, List.getElem?_cons_succ])
        (refine W_at c18_ok ?_; refine ⟨_, rfl, ?_⟩; simp (disch := first | omega | assumption | rfl | (simp only [vcS] <;> omega) | fail) only [↓ptV_l, ↓vcA, vcB, ↓vcD, vcE, ↓reduceIte, Nat.reduceEqDiff, Nat.reduceAdd, Nat.reduceMul, Nat.reduceLeDiff, Int.reduceLE, Int.reduceLT, Int.reduceEq, Int.reduceToNat, Int.reduceAdd, Int.reduceSub, Int.reduceMul, Int.reduceNeg, reduceCtorEq, Option.bind_some, Option.map_some, List.length_cons, List.length_nil, vcM, List.getElem?_toArray, List.getElem?_cons_zero, List.getElem?_cons_succ, hbb3, h1, hp', hks'])
        have J : ∀ w4, BookAt w4 b c m (delW k ws1) → Keep (Own b m) w w4 → w4.heap[w2.heap.size]? = some (.cells #[Value.int IntKind.i64 e.2.1, Value.int IntKind.i64 e.2.2] 76 (0, 0)) →
            W Try.prog (Ret fun v w' => BookTo w b (hits h ids cnt ws).1 m (hits h ids cnt ws).2 w') 18 17
              [(0, .pointer (some ⟨b, 0, none⟩)), (1, .int .i64 h), (12, .pointer (some ⟨w2.heap.size, 0, none⟩)), (50, Value.slice (some ⟨g, 0, none⟩) ids.length cap), (51, .int .i64 ids.length), (52, .int .i64 j)] w4 := by
          intro w4 hb4 hk4 hp4
          have hB4 := BOK_del (k := k) hB1
          have he2 := hB1 e (List.mem_of_getElem? hei)
          have hbk : 0 ≤ e.2.1 ∧ e.2.1 < 24 := he2
          obtain ⟨bk', hbk'⟩ : ∃ n : Nat, e.2.1 = n := ⟨e.2.1.toNat, by omega⟩
          have hto : e.2.1.toNat = bk' := by omega
          have hb24 : bk' < 24 := by omega
          have hfin : ∀ w5, BookAt w5 b (hitC h e c) m (delW k ws1) → Keep (Own b m) w w5 → W Try.prog (Ret fun v w' => BookTo w b (hits h ids cnt ws).1 m (hits h ids cnt ws).2 w') 18 24
              [(0, .pointer (some ⟨b, 0, none⟩)), (1, .int .i64 h), (50, Value.slice (some ⟨g, 0, none⟩) ids.length cap), (51, .int .i64 ids.length), (52, .int .i64 ((j + 1 : Nat) : Int))] w5 := by
            intro w5 hb5 hk5
            refine ih (j + 1) w5 _ _ (by omega) hb5 hB4 hk5 ?_
            rw [← he]; simp only [hits, hq, Option.bind_some, hei]
          have L : ∀ tl, W Try.prog (Ret fun v w' => BookTo w b (hits h ids cnt ws).1 m (hits h ids cnt ws).2 w') 18 13
              ((0, .pointer (some ⟨b, 0, none⟩)) :: (1, .int .i64 h) :: (12, .pointer (some ⟨w2.heap.size, 0, none⟩)) :: (14, .int .u64 (waitedF h e.2.2)) :: (50, Value.slice (some ⟨g, 0, none⟩) ids.length cap) :: (51, .int .i64 ids.length) :: (52, .int .i64 j) :: tl) w4 := by
            intro tl
            unfold hitC at hfin
            rw [hto] at hfin
            generalize waitedF h e.2.2 = wd at hfin ⊢
            (refine W_at c18_ok ?_; refine ⟨_, rfl, ?_⟩; simp (disch := first | omega | assumption | rfl | (simp only [vcS] <;> omega) | fail) only [↓ptV_l, ↓vcA, vcB, ↓vcD, vcE, ↓reduceIte, Nat.reduceEqDiff, Nat.reduceAdd, Nat.reduceMul, Nat.reduceLeDiff, Int.reduceLE, Int.reduceLT, Int.reduceEq, Int.reduceToNat, Int.reduceAdd, Int.reduceSub, Int.reduceMul, Int.reduceNeg, reduceCtorEq, Option.bind_some, Option.map_some, List.length_cons, List.length_nil, vcM, List.getElem?_toArray, List.getElem?_cons_zero, List.getElem?_cons_succ, hp4, hbk, hto])
            have hb4' : BookAt w4.drew b c m (delW k ws1) := hb4.keep ((Keep.refl (fun _ => False) w4).drew) (fun h => h) fun _ _ h => h
            have hk4' := hk4.drew
            generalize w4.drew = w5 at hb4' hk4' ⊢
            have hbb5 := hb4'.1
            have hwr := hb4'.wr (i := bk' * 13) (by omega)
            have h0 : (bookC c m)[bk' * 13]? = some (.int .i64 (c.getD (bk' * 13) 0)) := bookC_int (by omega)
            have hb6 := hb4'.set (i := bk' * 13) (by omega) (IntKind.i64.wrap (c.getD (bk' * 13) 0 + 1000))
            have hk6 : Keep (Own b m) w (w5.setCell ⟨b, bk' * 13, none⟩ (.int .i64 (IntKind.i64.wrap (c.getD (bk' * 13) 0 + 1000)))) := hk4'.setCell _ fun _ => .inl rfl
            (refine W_at c18_ok ?_; refine ⟨_, rfl, ?_⟩; simp (disch := first | omega | assumption | rfl | (simp only [vcS] <;> omega) | fail) only [↓ptV_l, ↓vcA, vcB, ↓vcD, vcE, ↓reduceIte, Nat.reduceEqDiff, Nat.reduceAdd, Nat.reduceMul, Nat.reduceLeDiff, Int.reduceLE, Int.reduceLT, Int.reduceEq, Int.reduceToNat, Int.reduceAdd, Int.reduceSub, Int.reduceMul, Int.reduceNeg, reduceCtorEq, Option.bind_some, Option.map_some, List.length_cons, List.length_nil, vcM, List.getElem?_toArray, List.getElem?_cons_zero, List.getElem?_cons_succ, hbb5, h0])
            refine ⟨hwr, ?_⟩
            generalize World.setCell w5 _ _ = w6 at hb6 hk6 ⊢
            generalize List.set c _ _ = c6 at hb6 hfin
            (refine W_at c18_ok ?_; refine ⟨_, rfl, ?_⟩; simp (disch := first | omega | assumption | rfl | (simp only [vcS] <;> omega) | fail) only [↓ptV_l, ↓vcA, vcB, ↓vcD, vcE, ↓reduceIte, Nat.reduceEqDiff, Nat.reduceAdd, Nat.reduceMul, Nat.reduceLeDiff, Int.reduceLE, Int.reduceLT, Int.reduceEq, Int.reduceToNat, Int.reduceAdd, Int.reduceSub, Int.reduceMul, Int.reduceNeg, reduceCtorEq, Option.bind_some, Option.map_some, List.length_cons, List.length_nil, vcM, List.getElem?_toArray, List.getElem?_cons_zero, List.getElem?_cons_succ])
            have I : ∀ (n' t : Nat) (w7 : World), n' + t = 12 → BookAt w7 b (hitT (bk' * 13) wd t c6) m (delW k ws1) → Keep (Own b m) w w7 →
                W Try.prog (Ret fun v w' => BookTo w b (hits h ids cnt ws).1 m (hits h ids cnt ws).2 w') 18 10
                  [(0, .pointer (some ⟨b, 0, none⟩)), (1, .int .i64 h), (14, .int .u64 wd), (15, .pointer (some ⟨b, bk' * 13, none⟩)), (50, Value.slice (some ⟨g, 0, none⟩) ids.length cap), (51, .int .i64 ids.length), (52, .int .i64 j), (95, .int .i64 t)] w7 := by
              intro n'
              induction n' with
              | zero =>
                intro t w7 ht hb7 hk7
                have ht' : ¬ ((t : Int) < 12) := by omega
                have ht12 : t = 12 := by omega
                subst ht12
                (refine W_at c18_ok ?_; refine ⟨_, rfl, ?_⟩; simp (disch := first | omega | assumption | rfl | (simp only [vcS] <;> omega) | fail) only [↓ptV_l, ↓vcA, vcB, ↓vcD, vcE, ↓reduceIte, Nat.reduceEqDiff, Nat.reduceAdd, Nat.reduceMul, Nat.reduceLeDiff, Int.reduceLE, Int.reduceLT, Int.reduceEq, Int.reduceToNat, Int.reduceAdd, Int.reduceSub, Int.reduceMul, Int.reduceNeg, reduceCtorEq, Option.bind_some, Option.map_some, List.length_cons, List.length_nil, vcM, List.getElem?_toArray, List.getElem?_cons_zero, List.getElem?_cons_succ, ht'])
                (refine W_at c18_ok ?_; refine ⟨_, rfl, ?_⟩; simp (disch := first | omega | assumption | rfl | (simp only [vcS] <;> omega) | fail) only [↓ptV_l, ↓vcA, vcB, ↓vcD, vcE, ↓reduceIte, Nat.reduceEqDiff, Nat.reduceAdd, Nat.reduceMul, Nat.reduceLeDiff, Int.reduceLE, Int.reduceLT, Int.reduceEq, Int.reduceToNat, Int.reduceAdd, Int.reduceSub, Int.reduceMul, Int.reduceNeg, reduceCtorEq, Option.bind_some, Option.map_some, List.length_cons, List.length_nil, vcM, List.getElem?_toArray, List.getElem?_cons_zero, List.getElem?_cons_succ])
                (refine W_at c18_ok ?_; refine ⟨_, rfl, ?_⟩; simp (disch := first | omega | assumption | rfl | (simp only [vcS] <;> omega) | fail) only [↓ptV_l, ↓vcA, vcB, ↓vcD, vcE, ↓reduceIte, Nat.reduceEqDiff, Nat.reduceAdd, Nat.reduceMul, Nat.reduceLeDiff, Int.reduceLE, Int.reduceLT, Int.reduceEq, Int.reduceToNat, Int.reduceAdd, Int.reduceSub, Int.reduceMul, Int.reduceNeg, reduceCtorEq, Option.bind_some, Option.map_some, List.length_cons, List.length_nil, vcM, List.getElem?_toArray, List.getElem?_cons_zero, List.getElem?_cons_succ, hwj])
                (refine W_at c18_ok ?_; refine ⟨_, rfl, ?_⟩; simp (disch := first | omega | assumption | rfl | (simp only [vcS] <;> omega) | fail) only [↓ptV_l, ↓vcA, vcB, ↓vcD, vcE, ↓reduceIte, Nat.reduceEqDiff, Nat.reduceAdd, Nat.reduceMul, Nat.reduceLeDiff, Int.reduceLE, Int.reduceLT, Int.reduceEq, Int.reduceToNat, Int.reduceAdd, Int.reduceSub, Int.reduceMul, Int.reduceNeg, reduceCtorEq, Option.bind_some, Option.map_some, List.length_cons, List.length_nil, vcM, List.getElem?_toArray, List.getElem?_cons_zero, List.getElem?_cons_succ])
                exact hfin w7 hb7 hk7
              | succ n' ih' =>
                intro t w7 ht hb7 hk7
                have ht' : (t : Int) < 12 := by omega
                have ht2 : 0 ≤ (t : Int) ∧ (t : Int) < 12 := by omega
                have hwt : IntKind.i64.wrap ((t : Int) + 1) = ((t + 1 : Nat) : Int) := wrap_i64 (by omega) (by omega)
                have hwu : IntKind.u64.wrap (t : Int) = (t : Int) := by rw [wrap_u64]; omega
                have hwu2 : IntKind.u64.wrap ((t : Int) + 1) = (t : Int) + 1 := by rw [wrap_u64]; omega
                (refine W_at c18_ok ?_; refine ⟨_, rfl, ?_⟩; simp (disch := first | omega | assumption | rfl | (simp only [vcS] <;> omega) | fail) only [↓ptV_l, ↓vcA, vcB, ↓vcD, vcE, ↓reduceIte, Nat.reduceEqDiff, Nat.reduceAdd, Nat.reduceMul, Nat.reduceLeDiff, Int.reduceLE, Int.reduceLT, Int.reduceEq, Int.reduceToNat, Int.reduceAdd, Int.reduceSub, Int.reduceMul, Int.reduceNeg, reduceCtorEq, Option.bind_some, Option.map_some, List.length_cons, List.length_nil, vcM, List.getElem?_toArray, List.getElem?_cons_zero, List.getElem?_cons_succ, ht'])
                (refine W_at c18_ok ?_; refine ⟨_, rfl, ?_⟩; simp (disch := first | omega | assumption | rfl | (simp only [vcS] <;> omega) | fail) only [↓ptV_l, ↓vcA, vcB, ↓vcD, vcE, ↓reduceIte, Nat.reduceEqDiff, Nat.reduceAdd, Nat.reduceMul, Nat.reduceLeDiff, Int.reduceLE, Int.reduceLT, Int.reduceEq, Int.reduceToNat, Int.reduceAdd, Int.reduceSub, Int.reduceMul, Int.reduceNeg, reduceCtorEq, Option.bind_some, Option.map_some, List.length_cons, List.length_nil, vcM, List.getElem?_toArray, List.getElem?_cons_zero, List.getElem?_cons_succ])
                (refine W_at c18_ok ?_; refine ⟨_, rfl, ?_⟩; simp (disch := first | omega | assumption | rfl | (simp only [vcS] <;> omega) | fail) only [↓ptV_l, ↓vcA, vcB, ↓vcD, vcE, ↓reduceIte, Nat.reduceEqDiff, Nat.reduceAdd, Nat.reduceMul, Nat.reduceLeDiff, Int.reduceLE, Int.reduceLT, Int.reduceEq, Int.reduceToNat, Int.reduceAdd, Int.reduceSub, Int.reduceMul, Int.reduceNeg, reduceCtorEq, Option.bind_some, Option.map_some, List.length_cons, List.length_nil, vcM, List.getElem?_toArray, List.getElem?_cons_zero, List.getElem?_cons_succ])
                by_cases hwd : wd ≤ (t : Int) + 1
                · (refine W_at c18_ok ?_; refine ⟨_, rfl, ?_⟩; simp (disch := first | omega | assumption | rfl | (simp only [vcS] <;> omega) | fail) only [↓ptV_l, ↓vcA, vcB, ↓vcD, vcE, ↓reduceIte, Nat.reduceEqDiff, Nat.reduceAdd, Nat.reduceMul, Nat.reduceLeDiff, Int.reduceLE, Int.reduceLT, Int.reduceEq, Int.reduceToNat, Int.reduceAdd, Int.reduceSub, Int.reduceMul, Int.reduceNeg, reduceCtorEq, Option.bind_some, Option.map_some, List.length_cons, List.length_nil, vcM, List.getElem?_toArray, List.getElem?_cons_zero, List.getElem?_cons_succ, hwu, hwu2, hwd])
                  (refine W_at c18_ok ?_; refine ⟨_, rfl, ?_⟩; simp (disch := first | omega | assumption | rfl | (simp only [vcS] <;> omega) | fail) only [↓ptV_l, ↓vcA, vcB, ↓vcD, vcE, ↓reduceIte, Nat.reduceEqDiff, Nat.reduceAdd, Nat.reduceMul, Nat.reduceLeDiff, Int.reduceLE, Int.reduceLT, Int.reduceEq, Int.reduceToNat, Int.reduceAdd, Int.reduceSub, Int.reduceMul, Int.reduceNeg, reduceCtorEq, Option.bind_some, Option.map_some, List.length_cons, List.length_nil, vcM, List.getElem?_toArray, List.getElem?_cons_zero, List.getElem?_cons_succ])
                  have hb8 : BookAt w7.drew b (hitT (bk' * 13) wd t c6) m (delW k ws1) := hb7.keep ((Keep.refl (fun _ => False) w7).drew) (fun h => h) fun _ _ h => h
                  have hk8 := hk7.drew
                  have hbb8 : w7.heap[b]? = _ := hb7.1
                  have hl8 := hb7.2.1
                  have h8 : (bookC (hitT (bk' * 13) wd t c6) m)[bk' * 13 + 1 + t]? = some (.int .i64 ((hitT (bk' * 13) wd t c6).getD (bk' * 13 + 1 + t) 0)) := bookC_int (by omega)
                  have hwr8 := hb8.wr (i := bk' * 13 + 1 + t) (by omega)
                  have hb9 := hb8.set (i := bk' * 13 + 1 + t) (by omega) (IntKind.i64.wrap ((hitT (bk' * 13) wd t c6).getD (bk' * 13 + 1 + t) 0 + 1000))
                  have hk9 : Keep (Own b m) w (w7.drew.setCell ⟨b, bk' * 13 + 1 + t, none⟩ (.int .i64 (IntKind.i64.wrap ((hitT (bk' * 13) wd t c6).getD (bk' * 13 + 1 + t) 0 + 1000)))) := hk8.setCell _ fun _ => .inl rfl
                  have e9 : hitT (bk' * 13) wd (t + 1) c6 = (hitT (bk' * 13) wd t c6).set (bk' * 13 + 1 + t) (IntKind.i64.wrap ((hitT (bk' * 13) wd t c6).getD (bk' * 13 + 1 + t) 0 + 1000)) := by simp only [hitT, if_pos hwd]
                  rw [← e9] at hb9
                  (refine W_at c18_ok ?_; refine ⟨_, rfl, ?_⟩; simp (disch := first | omega | assumption | rfl | (simp only [vcS] <;> omega) | fail) only [↓ptV_l, ↓vcA, vcB, ↓vcD, vcE, ↓reduceIte, Nat.reduceEqDiff, Nat.reduceAdd, Nat.reduceMul, Nat.reduceLeDiff, Int.reduceLE, Int.reduceLT, Int.reduceEq, Int.reduceToNat, Int.reduceAdd, Int.reduceSub, Int.reduceMul, Int.reduceNeg, reduceCtorEq, Option.bind_some, Option.map_some, List.length_cons, List.length_nil, vcM, List.getElem?_toArray, List.getElem?_cons_zero, List.getElem?_cons_succ, ht2, hbb8, Int.toNat_natCast, Nat.mul_one, h8])
                  refine ⟨hwr8, ?_⟩
                  generalize World.setCell w7.drew _ _ = w9 at hb9 hk9 ⊢
                  (refine W_at c18_ok ?_; refine ⟨_, rfl, ?_⟩; simp (disch := first | omega | assumption | rfl | (simp only [vcS] <;> omega) | fail) only [↓ptV_l, ↓vcA, vcB, ↓vcD, vcE, ↓reduceIte, Nat.reduceEqDiff, Nat.reduceAdd, Nat.reduceMul, Nat.reduceLeDiff, Int.reduceLE, Int.reduceLT, Int.reduceEq, Int.reduceToNat, Int.reduceAdd, Int.reduceSub, Int.reduceMul, Int.reduceNeg, reduceCtorEq, Option.bind_some, Option.map_some, List.length_cons, List.length_nil, vcM, List.getElem?_toArray, List.getElem?_cons_zero, List.getElem?_cons_succ, hwt])
                  (refine W_at c18_ok ?_; refine ⟨_, rfl, ?_⟩; simp (disch := first | omega | assumption | rfl | (simp only [vcS] <;> omega) | fail) only [↓ptV_l, ↓vcA, vcB, ↓vcD, vcE, ↓reduceIte, Nat.reduceEqDiff, Nat.reduceAdd, Nat.reduceMul, Nat.reduceLeDiff, Int.reduceLE, Int.reduceLT, Int.reduceEq, Int.reduceToNat, Int.reduceAdd, Int.reduceSub, Int.reduceMul, Int.reduceNeg, reduceCtorEq, Option.bind_some, Option.map_some, List.length_cons, List.length_nil, vcM, List.getElem?_toArray, List.getElem?_cons_zero, List.getElem?_cons_succ])
                  exact ih' (t + 1) w9 (by omega) hb9 hk9
                · (refine W_at c18_ok ?_; refine ⟨_, rfl, ?_⟩; simp (disch := first | omega | assumption | rfl | (simp only [vcS] <;> omega) | fail) only [↓ptV_l, ↓vcA, vcB, ↓vcD, vcE, ↓reduceIte, Nat.reduceEqDiff, Nat.reduceAdd, Nat.reduceMul, Nat.reduceLeDiff, Int.reduceLE, Int.reduceLT, Int.reduceEq, Int.reduceToNat, Int.reduceAdd, Int.reduceSub, Int.reduceMul, Int.reduceNeg, reduceCtorEq, Option.bind_some, Option.map_some, List.length_cons, List.length_nil, vcM, List.getElem?_toArray, List.getElem?_cons_zero, List.getElem?_cons_succ, hwu, hwu2, hwd])
                  (refine W_at c18_ok ?_; refine ⟨_, rfl, ?_⟩; simp (disch := first | omega | assumption | rfl | (simp only [vcS] <;> omega) | fail) only [↓ptV_l, ↓vcA, vcB, ↓vcD, vcE, ↓reduceIte, Nat.reduceEqDiff, Nat.reduceAdd, Nat.reduceMul, Nat.reduceLeDiff, Int.reduceLE, Int.reduceLT, Int.reduceEq, Int.reduceToNat, Int.reduceAdd, Int.reduceSub, Int.reduceMul, Int.reduceNeg, reduceCtorEq, Option.bind_some, Option.map_some, List.length_cons, List.length_nil, vcM, List.getElem?_toArray, List.getElem?_cons_zero, List.getElem?_cons_succ])
                  (refine W_at c18_ok ?_; refine ⟨_, rfl, ?_⟩; simp (disch := first | omega | assumption | rfl | (simp only [vcS] <;> omega) | fail) only [↓ptV_l, ↓vcA, vcB, ↓vcD, vcE, ↓reduceIte, Nat.reduceEqDiff, Nat.reduceAdd, Nat.reduceMul, Nat.reduceLeDiff, Int.reduceLE, Int.reduceLT, Int.reduceEq, Int.reduceToNat, Int.reduceAdd, Int.reduceSub, Int.reduceMul, Int.reduceNeg, reduceCtorEq, Option.bind_some, Option.map_some, List.length_cons, List.length_nil, vcM, List.getElem?_toArray, List.getElem?_cons_zero, List.getElem?_cons_succ, hwt])
                  (refine W_at c18_ok ?_; refine ⟨_, rfl, ?_⟩; simp (disch := first | omega | assumption | rfl | (simp only [vcS] <;> omega) | fail) only [↓ptV_l, ↓vcA, vcB, ↓vcD, vcE, ↓reduceIte, Nat.reduceEqDiff, Nat.reduceAdd, Nat.reduceMul, Nat.reduceLeDiff, Int.reduceLE, Int.reduceLT, Int.reduceEq, Int.reduceToNat, Int.reduceAdd, Int.reduceSub, Int.reduceMul, Int.reduceNeg, reduceCtorEq, Option.bind_some, Option.map_some, List.length_cons, List.length_nil, vcM, List.getElem?_toArray, List.getElem?_cons_zero, List.getElem?_cons_succ])
                  refine ih' (t + 1) w7 (by omega) ?_ hk7
                  have e9 : hitT (bk' * 13) wd (t + 1) c6 = hitT (bk' * 13) wd t c6 := by simp only [hitT, if_neg hwd]
                  rw [e9]; exact hb7
            exact I 12 0 w6 rfl hb6 hk6
          (refine W_at c18_ok ?_; refine ⟨_, rfl, ?_⟩; simp (disch := first | omega | assumption | rfl | (simp only [vcS] <;> omega) | fail) only [↓ptV_l, ↓vcA, vcB, ↓vcD, vcE, ↓reduceIte, Nat.reduceEqDiff, Nat.reduceAdd, Nat.reduceMul, Nat.reduceLeDiff, Int.reduceLE, Int.reduceLT, Int.reduceEq, Int.reduceToNat, Int.reduceAdd, Int.reduceSub, Int.reduceMul, Int.reduceNeg, reduceCtorEq, Option.bind_some, Option.map_some, List.length_cons, List.length_nil, vcM, List.getElem?_toArray, List.getElem?_cons_zero, List.getElem?_cons_succ])
          by_cases hgt : e.2.2 < h
          · (refine W_at c18_ok ?_; refine ⟨_, rfl, ?_⟩; simp (disch := first | omega | assumption | rfl | (simp only [vcS] <;> omega) | fail) only [↓ptV_l, ↓vcA, vcB, ↓vcD, vcE, ↓reduceIte, Nat.reduceEqDiff, Nat.reduceAdd, Nat.reduceMul, Nat.reduceLeDiff, Int.reduceLE, Int.reduceLT, Int.reduceEq, Int.reduceToNat, Int.reduceAdd, Int.reduceSub, Int.reduceMul, Int.reduceNeg, reduceCtorEq, Option.bind_some, Option.map_some, List.length_cons, List.length_nil, vcM, List.getElem?_toArray, List.getElem?_cons_zero, List.getElem?_cons_succ, hp4, hgt])
            (refine W_at c18_ok ?_; refine ⟨_, rfl, ?_⟩; simp (disch := first | omega | assumption | rfl | (simp only [vcS] <;> omega) | fail) only [↓ptV_l, ↓vcA, vcB, ↓vcD, vcE, ↓reduceIte, Nat.reduceEqDiff, Nat.reduceAdd, Nat.reduceMul, Nat.reduceLeDiff, Int.reduceLE, Int.reduceLT, Int.reduceEq, Int.reduceToNat, Int.reduceAdd, Int.reduceSub, Int.reduceMul, Int.reduceNeg, reduceCtorEq, Option.bind_some, Option.map_some, List.length_cons, List.length_nil, vcM, List.getElem?_toArray, List.getElem?_cons_zero, List.getElem?_cons_succ])
            have hwe : waitedF h e.2.2 = IntKind.u64.wrap (IntKind.u64.wrap h - IntKind.u64.wrap e.2.2) := by simp only [waitedF, if_pos hgt]
            (refine W_at c18_ok ?_; refine ⟨_, rfl, ?_⟩; simp (disch := first | omega | assumption | rfl | (simp only [vcS] <;> omega) | fail) only [↓ptV_l, ↓vcA, vcB, ↓vcD, vcE, ↓reduceIte, Nat.reduceEqDiff, Nat.reduceAdd, Nat.reduceMul, Nat.reduceLeDiff, Int.reduceLE, Int.reduceLT, Int.reduceEq, Int.reduceToNat, Int.reduceAdd, Int.reduceSub, Int.reduceMul, Int.reduceNeg, reduceCtorEq, Option.bind_some, Option.map_some, List.length_cons, List.length_nil, vcM, List.getElem?_toArray, List.getElem?_cons_zero, List.getElem?_cons_succ, hp4])
            rw [← hwe]
            exact L _
          · (refine W_at c18_ok ?_; refine ⟨_, rfl, ?_⟩; simp (disch := first | omega | assumption | rfl | (simp only [vcS] <;> omega) | fail) only [↓ptV_l, ↓vcA, vcB, ↓vcD, vcE, ↓reduceIte, Nat.reduceEqDiff, Nat.reduceAdd, Nat.reduceMul, Nat.reduceLeDiff, Int.reduceLE, Int.reduceLT, Int.reduceEq, Int.reduceToNat, Int.reduceAdd, Int.reduceSub, Int.reduceMul, Int.reduceNeg, reduceCtorEq, Option.bind_some, Option.map_some, List.length_cons, List.length_nil, vcM, List.getElem?_toArray, List.getElem?_cons_zero, List.getElem?_cons_succ, hp4, hgt])
            (refine W_at c18_ok ?_; refine ⟨_, rfl, ?_⟩; simp (disch := first | omega | assumption | rfl | (simp only [vcS] <;> omega) | fail) only [↓ptV_l, ↓vcA, vcB, ↓vcD, vcE, ↓reduceIte, Nat.reduceEqDiff, Nat.reduceAdd, Nat.reduceMul, Nat.reduceLeDiff, Int.reduceLE, Int.reduceLT, Int.reduceEq, Int.reduceToNat, Int.reduceAdd, Int.reduceSub, Int.reduceMul, Int.reduceNeg, reduceCtorEq, Option.bind_some, Option.map_some, List.length_cons, List.length_nil, vcM, List.getElem?_toArray, List.getElem?_cons_zero, List.getElem?_cons_succ])
            have hwe : waitedF h e.2.2 = 1 := by simp only [waitedF, if_neg hgt]
            rw [hwe] at L
            exact L _
        cases m with
        | none =>
          refine ⟨hk, ?_⟩
          have hws : ws1 = [] := hw1
          subst hws
          exact J _ (hb3.keep (S := fun _ => False) (by (repeat' first | exact Keep.refl _ _ | assumption | refine Keep.drew ?_ | refine Keep.alloc ?_ _ | refine Keep.putN ?_ _ ?_ | refine Keep.setCell ?_ _ ?_ | refine Keep.setO ?_ _ ?_ | exact fun _ => Or.inl rfl | exact fun _ => Or.inr rfl | exact fun _ => rfl | (intro hh; exfalso; ((try simp only [vcS] at hh) <;> omega)))) (fun h => h) fun _ _ h => h) hk3.drew hp3
        | some r =>
          refine ⟨hk, ?_⟩
          obtain ⟨es, cc, hr, hes⟩ := hb3.2.2.1
          have hr2 : w3.drew.heap[r]? = some (.map es cc) := hr
          rw [mapE_waits hr2 hes hs1]
          have hne : b ≠ r := by rintro rfl; rw [hbb3] at hr; cases hr
          have hne2 : w2.heap.size ≠ r := by rintro rfl; exact hn2 (.inr rfl)
          refine J _ ⟨?_, hl1, del_waits hr2 hes, HKs_del hs1⟩ (hk3.drew.setO _ fun _ => .inr rfl) ?_
          · rw [heap_setO_ne _ _ _ _ hne]; exact hbb3
          · rw [heap_setO_ne _ _ _ _ hne2]; exact hp3
  (refine W_at c18_ok ?_; refine ⟨_, rfl, ?_⟩; simp (disch := first | omega | assumption | rfl | (simp only [vcS] <;> omega) | fail) only [↓ptV_l, ↓vcA, vcB, ↓vcD, vcE, ↓reduceIte, Nat.reduceEqDiff, Nat.reduceAdd, Nat.reduceMul, Nat.reduceLeDiff, Int.reduceLE, Int.reduceLT, Int.reduceEq, Int.reduceToNat, Int.reduceAdd, Int.reduceSub, Int.reduceMul, Int.reduceNeg, reduceCtorEq, Option.bind_some, Option.map_some, List.length_cons, List.length_nil, vcM, List.getElem?_toArray, List.getElem?_cons_zero, List.getElem?_cons_succ, hlen])
  exact H ids.length 0 w cnt ws rfl hb hB (Keep.refl _ w) rfl

theorem block_ok (w : World) (b : Nat) (cnt : List Int) (m : Option Nat) (ws : List WE) (h : Int) (v : Value) (ids : List (Array Value)) (hb : BookAt w b cnt m ws) (hB : BOK ws) (hI : IdsAt 54 w v ids) :
    Calls Try.prog 18 #[.pointer (some ⟨b, 0, none⟩), .int .i64 h, v] w (Ret fun v w' => BookTo w b (hits h ids (cnt.map fadeF) ws).1 m (hits h ids (cnt.map fadeF) ws).2 w') := by
  refine calls_of_cfg c18_ok (Nat.le_of_ble_eq_true rfl) ?_
  simp only [argE_nil, argE_cons, Nat.reduceAdd, Nat.zero_add]
  (refine W_at c18_ok ?_; refine ⟨_, rfl, ?_⟩; simp (disch := first | omega | assumption | rfl | (simp only [vcS] <;> omega) | fail) only [↓ptV_l, ↓vcA, vcB, ↓vcD, vcE, ↓reduceIte, Nat.reduceEqDiff, Nat.reduceAdd, Nat.reduceMul, Nat.reduceLeDiff, Int.reduceLE, Int.reduceLT, Int.reduceEq, Int.reduceToNat, Int.reduceAdd, Int.reduceSub, Int.reduceMul, Int.reduceNeg, reduceCtorEq, Option.bind_some, Option.map_some, List.length_cons, List.length_nil, vcM, List.getElem?_toArray, List.getElem?_cons_zero, List.getElem?_cons_succ])
  refine blockA w b cnt m ws h v hb _ fun w1 tl hb1 hk1 => ?_
  have hI1 : IdsAt 54 w1 v ids := by
    obtain ⟨⟨base, hI⟩, hk⟩ := hI
    refine ⟨⟨base, ownsRow_keep hI hk1 ?_⟩, hk⟩
    rintro g hg
    obtain ⟨_, ⟨rfl, _⟩ | ⟨g', cap, cur, rfl, _, hg', _⟩⟩ := hI
    · cases hg
    · cases hg
      rintro (rfl | rfl)
      · rw [hb.1] at hg'; cases hg'
      · obtain ⟨es, c, hr, _⟩ := hb.2.2.1
        rw [hg'] at hr; cases hr
  refine W_mono (blockB w1 b _ m ws h v ids hb1 hB hI1 tl) ?_
  rintro en w' ⟨v, hv, m', h1, h2, h3⟩
  refine ⟨v, hv, m', h1, hk1.trans h2 fun _ _ h => h, ?_⟩
  rcases h3 with h3 | ⟨r, h3, h4⟩
  · exact .inl h3
  · exact .inr ⟨r, h3, Nat.le_trans hk1.size h4⟩
end Go.Proofs
