/- A step of both books, once more: what is said of two books beside each other. -/
import Derived.Test.YtnbbgmnjjdaopaaFD
set_option linter.unusedSimpArgs false
set_option linter.unusedVariables false
set_option linter.constructorNameAsVariable false
namespace Go.Proofs
open Go.Vc Go.Proofs.Fees
set_option maxRecDepth 10000

/-- No name waits twice. -/
def Dist (ws : List WE) : Prop := ws.Pairwise fun a b => a.1 ≠ b.1
theorem Dist_del {k : Array Value} {ws : List WE} (h : Dist ws) : Dist (delW k ws) := by
  unfold delW
  split
  · exact h.sublist (List.eraseIdx_sublist _ _)
  · exact h
theorem idx_none {k : Array Value} : ∀ {ws : List WE}, idxW k ws = none → ∀ e ∈ ws, e.1 ≠ k
  | [], _, _, h => by cases h
  | x :: ws, h, e, he => by
    simp only [idxW] at h
    split at h
    · cases h
    · rename_i hk
      rcases List.mem_cons.1 he with rfl | he
      · intro e; exact hk (keq_iff.2 e.symm)
      · exact idx_none (Option.map_eq_none_iff.1 h) e he
theorem Dist_ent {k : Array Value} {b : Nat} {h : Int} {ws : List WE} (hd : Dist ws) : Dist (entW k b h ws) := by
  unfold entW
  split
  · exact hd
  · rename_i hn
    refine List.pairwise_append.2 ⟨hd, List.pairwise_singleton _ _, fun a ha x hx => ?_⟩
    rw [List.mem_singleton.1 hx]
    exact idx_none hn a ha
theorem Dist_hits {h : Int} : ∀ {ids : List (Array Value)} {c : List Int} {ws : List WE}, Dist ws → Dist (hits h ids c ws).2
  | [], _, _, hd => hd
  | k :: ids, c, ws, hd => by
    simp only [hits]
    split
    · exact Dist_hits hd
    · exact Dist_hits (Dist_del hd)

/-- The program's step, seen from the start. -/
theorem Both.step2 {w0 w w1 w2 : World} {n b : Nat} {m : Option Nat} {cnt rc cnt' : List Int} {v : Value} {ws ws' : List WE} (h : Both w0 w n b m cnt rc v ws) (hE : Ext w w1) (hb : BookTo w1 b cnt' m ws' w2) :
    ∃ m', BookAt w2 b cnt' m' ws' ∧ ((∀ r, m' = some r → w0.heap.size ≤ r) ∧ Fresh w m m') ∧ Ext w0 w2 ∧ WRow w2 v ws ∧ Keep (Own b m) w w2 ∧ ∀ p o, w.heap.size ≤ p → w1.heap[p]? = some o → w2.heap[p]? = some o := by
  obtain ⟨m', h1, h2, h3⟩ := hb
  have hE0 := h.ext.ext hE
  refine ⟨m', h1, ?_, ?_, ?_, hE.mono (fun _ h => h.elim) |>.trans h2 (fun _ _ h => h), ?_⟩
  · refine ⟨?_, h3.imp id fun ⟨r, e, hr⟩ => ⟨r, e, Nat.le_trans hE.size hr⟩⟩
    rcases h3 with rfl | ⟨r, rfl, hr⟩
    · exact h.ml
    · intro r' hr'; cases hr'; exact Nat.le_trans hE0.size hr
  · refine hE0.trans h2 fun i hi ho => ?_
    rcases ho with rfl | ho
    · have := h.bl; omega
    · have := h.ml i ho; omega
  · refine (h.row.keep hE fun _ _ h => h).keep h2 ?_
    rintro g hg (rfl | rfl)
    · obtain ⟨cur, hc⟩ := row_type h.row.1 hg
      rw [h.book.1] at hc; cases hc
    · obtain ⟨cur, hc⟩ := row_type h.row.1 hg
      obtain ⟨es, c, hr, _⟩ := h.book.2.2.1
      rw [hr] at hc; cases hc
  · intro p o hp ho
    refine h2.at ho ?_
    rintro (rfl | ho)
    · have := h.book.lt; omega
    · have := h.book.mlt p ho; omega

/-- What 'do' leaves. -/
def Done2 (w0 w : World) (m0 : Option Nat) (w' : World) (n b : Nat) (u : Value) (ws0 : List WE) : Prop := ∃ m rc cnt v ws, u = .agg (refC rc v) ∧ Both w0 w' (n + 1) b m cnt rc v ws ∧ Fresh w m0 m ∧ (Dist ws0 → Dist ws)

set_option maxHeartbeats 800000 in
/-- What one act does to both books. -/
theorem do2_ok (w0 w : World) (n b : Nat) (m : Option Nat) (cnt rc : List Int) (v : Value) (ws : List WE) (a : Array Value) (kind id rate h : Int) (q : Option Addr) (na c : Nat) (bs : List Int)
    (hB : Both w0 w n b m cnt rc v ws) (ha : ActAt w0 a kind id rate h q na c bs) (hn : n ≤ 1000000) :
    Calls Try.prog 10 #[.pointer (some ⟨b, 0, none⟩), .agg (refC rc v), .agg a] w (Ret fun u w' => Done2 w0 w m w' n b u ws ∧ Keep (Own b m) w w') := by
  refine calls_of_cfg c10_ok (Nat.le_of_ble_eq_true rfl) ?_
  simp only [argE_nil, argE_cons, Nat.reduceAdd, Nat.zero_add]
  have hl := hB.rel.l2
  have hsz : (refC rc v).size = 313 := by rw [size_refC, hl]
  have hrf := refC_flat (rc := rc) (one_row hB.row.1)
  have has : a.size = 5 := by rw [ha.eq]; rfl
  have haf : flat a := by rw [ha.eq]; intro x hx; simp at hx; rcases hx with rfl | rfl | rfl | rfl | rfl <;> rfl
  (refine W_at c10_ok ?_; refine ⟨_, rfl, ?_⟩; simp (disch := first | omega | assumption | rfl | (simp only [vcS] <;> omega) | fail) only [↓ptV_l, ↓vcA, vcB, ↓vcD, vcE, ↓reduceIte, Nat.reduceEqDiff, Nat.reduceAdd, Nat.reduceMul, Nat.reduceLeDiff, Int.reduceLE, Int.reduceLT, Int.reduceEq, Int.reduceToNat, Int.reduceAdd, Int.reduceSub, Int.reduceMul, Int.reduceNeg, reduceCtorEq, Option.bind_some, Option.map_some, List.length_cons, List.length_nil, vcM, List.getElem?_toArray, List.getElem?_cons_zero, List.getElem?_cons_succ, hsz, hrf, has, haf])
  have hp4 : (((w.alloc (Obj.cells (refC rc v) 31)).alloc (Obj.cells a 35)).alloc (Obj.cells (zc [(312, Value.int IntKind.i64 0), (1, Value.slice none 0 0)]) 31)).heap[w.heap.size]? = some (.cells (refC rc v) 31 (0, 0)) := by simp (disch := first | omega | assumption | rfl | (simp only [vcS] <;> omega) | fail) only [↓ptV_l, ↓vcA, vcB, ↓vcD, vcE, ↓reduceIte, Nat.reduceEqDiff, Nat.reduceAdd, Nat.reduceMul, Nat.reduceLeDiff, Int.reduceLE, Int.reduceLT, Int.reduceEq, Int.reduceToNat, Int.reduceAdd, Int.reduceSub, Int.reduceMul, Int.reduceNeg, reduceCtorEq, Option.bind_some, Option.map_some, List.length_cons, List.length_nil, vcM, List.getElem?_toArray, List.getElem?_cons_zero, List.getElem?_cons_succ]
  have hp5 : (((w.alloc (Obj.cells (refC rc v) 31)).alloc (Obj.cells a 35)).alloc (Obj.cells (zc [(312, Value.int IntKind.i64 0), (1, Value.slice none 0 0)]) 31)).heap[w.heap.size + 1]? = some (.cells a 35 (0, 0)) := by simp (disch := first | omega | assumption | rfl | (simp only [vcS] <;> omega) | fail) only [↓ptV_l, ↓vcA, vcB, ↓vcD, vcE, ↓reduceIte, Nat.reduceEqDiff, Nat.reduceAdd, Nat.reduceMul, Nat.reduceLeDiff, Int.reduceLE, Int.reduceLT, Int.reduceEq, Int.reduceToNat, Int.reduceAdd, Int.reduceSub, Int.reduceMul, Int.reduceNeg, reduceCtorEq, Option.bind_some, Option.map_some, List.length_cons, List.length_nil, vcM, List.getElem?_toArray, List.getElem?_cons_zero, List.getElem?_cons_succ]
  have hp6 : (((w.alloc (Obj.cells (refC rc v) 31)).alloc (Obj.cells a 35)).alloc (Obj.cells (zc [(312, Value.int IntKind.i64 0), (1, Value.slice none 0 0)]) 31)).heap[w.heap.size + 2]? = some (.cells (zc [(312, Value.int IntKind.i64 0), (1, Value.slice none 0 0)]) 31 (0, 0)) := by simp (disch := first | omega | assumption | rfl | (simp only [vcS] <;> omega) | fail) only [↓ptV_l, ↓vcA, vcB, ↓vcD, vcE, ↓reduceIte, Nat.reduceEqDiff, Nat.reduceAdd, Nat.reduceMul, Nat.reduceLeDiff, Int.reduceLE, Int.reduceLT, Int.reduceEq, Int.reduceToNat, Int.reduceAdd, Int.reduceSub, Int.reduceMul, Int.reduceNeg, reduceCtorEq, Option.bind_some, Option.map_some, List.length_cons, List.length_nil, vcM, List.getElem?_toArray, List.getElem?_cons_zero, List.getElem?_cons_succ]
  have hE1 : Ext w (((w.alloc (Obj.cells (refC rc v) 31)).alloc (Obj.cells a 35)).alloc (Obj.cells (zc [(312, Value.int IntKind.i64 0), (1, Value.slice none 0 0)]) 31)) := by (repeat' first | exact Keep.refl _ _ | assumption | refine Keep.drew ?_ | refine Keep.alloc ?_ _ | refine Keep.putN ?_ _ ?_ | refine Keep.setCell ?_ _ ?_ | refine Keep.setO ?_ _ ?_ | exact fun _ => Or.inl rfl | exact fun _ => Or.inr rfl | exact fun _ => rfl | (intro hh; exfalso; ((try simp only [vcS] at hh) <;> omega)))
  generalize World.alloc (World.alloc (World.alloc _ _) _) _ = w1 at hp4 hp5 hp6 hE1 ⊢
  have hz : (zc [(312, Value.int IntKind.i64 0), (1, Value.slice none 0 0)]).size = 313 := by simp [size_zc]
  have ha0 : a[0]? = some (.int .i64 kind) := by rw [ha.eq]; rfl
  have ha1 : a[1]? = some (.int .u8 id) := by rw [ha.eq]; rfl
  have ha2 : a[2]? = some (.int .i64 rate) := by rw [ha.eq]; rfl
  have ha3 : a[3]? = some (.int .i64 h) := by rw [ha.eq]; rfl
  have ha4 : a[4]? = some (.slice q na c) := by rw [ha.eq]; rfl
  -- the end
  have hend : ∀ (w3 w4 : World) (m' : Option Nat) (cnt' rc' : List Int) (u : Value) (ws' : List WE), BookAt w3 b cnt' m' ws' → ((∀ r, m' = some r → w0.heap.size ≤ r) ∧ Fresh w m m') → Ext w0 w3 → Keep (Own b m) w w3 →
      w3.heap[w.heap.size + 2]? = some (.cells (zc [(312, Value.int IntKind.i64 0), (1, Value.slice none 0 0)]) 31 (0, 0)) → RefIs w3 w4 u rc' ws' → Rel cnt' rc' → Good (40000 * (n + 1)) cnt' → BOK ws' → ws'.length ≤ n + 1 → (Dist ws → Dist ws') →
      ∃ cs, u = .agg cs ∧ cs.size = 313 ∧ flat cs ∧ w4.heap[w.heap.size + 1 + 1]? = some (.cells (zc [(312, Value.int IntKind.i64 0), (1, Value.slice none 0 0)]) 31 (0, 0)) ∧
        (w4.putN (w.heap.size + 1 + 1) 0 cs).heap[w.heap.size + 1 + 1]? = some (.cells cs 31 (0, 0)) ∧ (Done2 w0 w m (w4.putN (w.heap.size + 1 + 1) 0 cs) n b (.agg cs) ws ∧ Keep (Own b m) w (w4.putN (w.heap.size + 1 + 1) 0 cs)) := by
    rintro w3 w4 m' cnt' rc' u ws' hb3 hm3 hE3 hk3 hp3 ⟨v', rfl, hr4, hE4⟩ hR hG hBO hL hD
    have hp4 := hE4.at hp3 fun h => h
    have hsz' : (refC rc' v').size = 313 := by rw [size_refC, hR.l2]
    refine ⟨_, rfl, hsz', refC_flat (one_row hr4.1), hp4, by rw [heap_putN_eq hp4, splice_all (by rw [hsz', hz])], ?_, ?_⟩
    · have hE5 : Keep (fun i => i = w.heap.size + 1 + 1) w4 (w4.putN (w.heap.size + 1 + 1) 0 (refC rc' v')) := by (repeat' first | exact Keep.refl _ _ | assumption | refine Keep.drew ?_ | refine Keep.alloc ?_ _ | refine Keep.putN ?_ _ ?_ | refine Keep.setCell ?_ _ ?_ | refine Keep.setO ?_ _ ?_ | exact fun _ => Or.inl rfl | exact fun _ => Or.inr rfl | exact fun _ => rfl | (intro hh; exfalso; ((try simp only [vcS] at hh) <;> omega)))
      have hws := hB.ext.size
      refine ⟨m', rc', cnt', v', ws', rfl, ⟨?_, hB.bl, hm3.1, ?_, ?_, hR, hG, hBO, hL⟩, hm3.2, hD⟩
      · exact (hE3.ext hE4).trans hE5 fun i hi (e : i = _) => by omega
      · refine ((hb3.keep hE4 (fun h => h) fun _ _ h => h).keep hE5 ?_ ?_)
        · have := hB.book.lt; intro (e : b = _); omega
        · rintro r rfl (rfl : r = _)
          obtain ⟨es, c, hr, _⟩ := hb3.2.2.1
          rw [hp3] at hr; cases hr
      · refine hr4.keep hE5 ?_
        rintro g hg (rfl : g = _)
        obtain ⟨cur, hc⟩ := row_type hr4.1 hg
        rw [hp4] at hc; cases hc
    · exact ((hk3.ext hE4)).putN _ fun hlt => by omega
  by_cases hk1 : kind = 1
  · subst hk1
    (refine W_at c10_ok ?_; refine ⟨_, rfl, ?_⟩; simp (disch := first | omega | assumption | rfl | (simp only [vcS] <;> omega) | fail) only [↓ptV_l, ↓vcA, vcB, ↓vcD, vcE, ↓reduceIte, Nat.reduceEqDiff, Nat.reduceAdd, Nat.reduceMul, Nat.reduceLeDiff, Int.reduceLE, Int.reduceLT, Int.reduceEq, Int.reduceToNat, Int.reduceAdd, Int.reduceSub, Int.reduceMul, Int.reduceNeg, reduceCtorEq, Option.bind_some, Option.map_some, List.length_cons, List.length_nil, vcM, List.getElem?_toArray, List.getElem?_cons_zero, List.getElem?_cons_succ, hp5, ha0])
    (refine W_at c10_ok ?_; refine ⟨_, rfl, ?_⟩; simp (disch := first | omega | assumption | rfl | (simp only [vcS] <;> omega) | fail) only [↓ptV_l, ↓vcA, vcB, ↓vcD, vcE, ↓reduceIte, Nat.reduceEqDiff, Nat.reduceAdd, Nat.reduceMul, Nat.reduceLeDiff, Int.reduceLE, Int.reduceLT, Int.reduceEq, Int.reduceToNat, Int.reduceAdd, Int.reduceSub, Int.reduceMul, Int.reduceNeg, reduceCtorEq, Option.bind_some, Option.map_some, List.length_cons, List.length_nil, vcM, List.getElem?_toArray, List.getElem?_cons_zero, List.getElem?_cons_succ])
    (refine W_at c10_ok ?_; refine ⟨_, rfl, ?_⟩; simp (disch := first | omega | assumption | rfl | (simp only [vcS] <;> omega) | fail) only [↓ptV_l, ↓vcA, vcB, ↓vcD, vcE, ↓reduceIte, Nat.reduceEqDiff, Nat.reduceAdd, Nat.reduceMul, Nat.reduceLeDiff, Int.reduceLE, Int.reduceLT, Int.reduceEq, Int.reduceToNat, Int.reduceAdd, Int.reduceSub, Int.reduceMul, Int.reduceNeg, reduceCtorEq, Option.bind_some, Option.map_some, List.length_cons, List.length_nil, vcM, List.getElem?_toArray, List.getElem?_cons_zero, List.getElem?_cons_succ])
    (refine W_at c10_ok ?_; refine ⟨_, rfl, ?_⟩; simp (disch := first | omega | assumption | rfl | (simp only [vcS] <;> omega) | fail) only [↓ptV_l, ↓vcA, vcB, ↓vcD, vcE, ↓reduceIte, Nat.reduceEqDiff, Nat.reduceAdd, Nat.reduceMul, Nat.reduceLeDiff, Int.reduceLE, Int.reduceLT, Int.reduceEq, Int.reduceToNat, Int.reduceAdd, Int.reduceSub, Int.reduceMul, Int.reduceNeg, reduceCtorEq, Option.bind_some, Option.map_some, List.length_cons, List.length_nil, vcM, List.getElem?_toArray, List.getElem?_cons_zero, List.getElem?_cons_succ, hp5, ha1])
    refine callV_ret (name_ok id _) ?_
    rintro _ w2 ⟨rfl, hE2⟩
    have hE12 : Ext w w2 := (by (repeat' first | exact Keep.refl _ _ | assumption | refine Keep.drew ?_ | refine Keep.alloc ?_ _ | refine Keep.putN ?_ _ ?_ | refine Keep.setCell ?_ _ ?_ | refine Keep.setO ?_ _ ?_ | exact fun _ => Or.inl rfl | exact fun _ => Or.inr rfl | exact fun _ => rfl | (intro hh; exfalso; ((try simp only [vcS] at hh) <;> omega))) : Ext w w1).ext ((by (repeat' first | exact Keep.refl _ _ | assumption | refine Keep.drew ?_ | refine Keep.alloc ?_ _ | refine Keep.putN ?_ _ ?_ | refine Keep.setCell ?_ _ ?_ | refine Keep.setO ?_ _ ?_ | exact fun _ => Or.inl rfl | exact fun _ => Or.inr rfl | exact fun _ => rfl | (intro hh; exfalso; ((try simp only [vcS] at hh) <;> omega))) : Ext w1 _).ext hE2)
    refine callV_ret (forget_ok w2 b cnt m ws _ (hB.book.keep hE12 (fun h => h) fun _ _ h => h) (nameC_HK id)) ?_
    intro _ w3 hTo
    obtain ⟨m', hb3, hm3, hE3, hr3, hk3, hp3⟩ := hB.step2 hE12 hTo
    have hp4' := hp3 _ _ (Nat.le_refl _) (hE2.at hp4 fun h => h)
    have hp5' := hp3 _ _ (by omega) (hE2.at hp5 fun h => h)
    have hp6' := hp3 _ _ (by omega) (hE2.at hp6 fun h => h)
    (refine W_at c10_ok ?_; refine ⟨_, rfl, ?_⟩; simp (disch := first | omega | assumption | rfl | (simp only [vcS] <;> omega) | fail) only [↓ptV_l, ↓vcA, vcB, ↓vcD, vcE, ↓reduceIte, Nat.reduceEqDiff, Nat.reduceAdd, Nat.reduceMul, Nat.reduceLeDiff, Int.reduceLE, Int.reduceLT, Int.reduceEq, Int.reduceToNat, Int.reduceAdd, Int.reduceSub, Int.reduceMul, Int.reduceNeg, reduceCtorEq, Option.bind_some, Option.map_some, List.length_cons, List.length_nil, vcM, List.getElem?_toArray, List.getElem?_cons_zero, List.getElem?_cons_succ, hp4', hp5', ha1, hsz, ext_all])
    refine callV_ret (name_ok id _) ?_
    rintro _ w4 ⟨rfl, hE4⟩
    have hE34 : Ext w3 w4 := (by (repeat' first | exact Keep.refl _ _ | assumption | refine Keep.drew ?_ | refine Keep.alloc ?_ _ | refine Keep.putN ?_ _ ?_ | refine Keep.setCell ?_ _ ?_ | refine Keep.setO ?_ _ ?_ | exact fun _ => Or.inl rfl | exact fun _ => Or.inr rfl | exact fun _ => rfl | (intro hh; exfalso; ((try simp only [vcS] at hh) <;> omega))) : Ext w3 _).ext hE4
    have hp4'' := hE34.at hp4' fun h => h
    simp (disch := first | omega | assumption | rfl | (simp only [vcS] <;> omega) | fail) only [↓ptV_l, ↓vcA, vcB, ↓vcD, vcE, ↓reduceIte, Nat.reduceEqDiff, Nat.reduceAdd, Nat.reduceMul, Nat.reduceLeDiff, Int.reduceLE, Int.reduceLT, Int.reduceEq, Int.reduceToNat, Int.reduceAdd, Int.reduceSub, Int.reduceMul, Int.reduceNeg, reduceCtorEq, Option.bind_some, Option.map_some, List.length_cons, List.length_nil, vcM, List.getElem?_toArray, List.getElem?_cons_zero, List.getElem?_cons_succ, hp4'', hsz, ext_all]
    have hk4 : Keep (Own b m) w w4 := hk3.ext hE34
    refine callV_ret (rforget_ok w4 rc v ws _ hl (hr3.keep hE34 fun _ _ h => h) (nameC_HK id) (Nat.le_trans hB.len hn)) ?_
    intro u w5 hR
    obtain ⟨cs, rfl, hcs, hcf, hq5, hq6, hD⟩ := hend w4 w5 m' cnt rc u (delW (nameC id) ws) (hb3.keep hE34 (fun h => h) fun _ _ h => h) hm3 (hE3.ext hE34) hk4 (hE34.at hp6' fun h => h) hR hB.rel (hB.good.mono (by omega)) (BOK_del hB.bok) (Nat.le_trans (delW_len _ _) (Nat.le_succ_of_le hB.len)) Dist_del
    simp (disch := first | omega | assumption | rfl | (simp only [vcS] <;> omega) | fail) only [↓ptV_l, ↓vcA, vcB, ↓vcD, vcE, ↓reduceIte, Nat.reduceEqDiff, Nat.reduceAdd, Nat.reduceMul, Nat.reduceLeDiff, Int.reduceLE, Int.reduceLT, Int.reduceEq, Int.reduceToNat, Int.reduceAdd, Int.reduceSub, Int.reduceMul, Int.reduceNeg, reduceCtorEq, Option.bind_some, Option.map_some, List.length_cons, List.length_nil, vcM, List.getElem?_toArray, List.getElem?_cons_zero, List.getElem?_cons_succ, hcs, hq5, hz]
    refine ⟨hcf, ?_⟩
    (refine W_at c10_ok ?_; refine ⟨_, rfl, ?_⟩; simp (disch := first | omega | assumption | rfl | (simp only [vcS] <;> omega) | fail) only [↓ptV_l, ↓vcA, vcB, ↓vcD, vcE, ↓reduceIte, Nat.reduceEqDiff, Nat.reduceAdd, Nat.reduceMul, Nat.reduceLeDiff, Int.reduceLE, Int.reduceLT, Int.reduceEq, Int.reduceToNat, Int.reduceAdd, Int.reduceSub, Int.reduceMul, Int.reduceNeg, reduceCtorEq, Option.bind_some, Option.map_some, List.length_cons, List.length_nil, vcM, List.getElem?_toArray, List.getElem?_cons_zero, List.getElem?_cons_succ, hq6, hcs, ext_all, Ret_returned])
    exact hD
  by_cases hk2 : kind = 2
  · subst hk2
    (refine W_at c10_ok ?_; refine ⟨_, rfl, ?_⟩; simp (disch := first | omega | assumption | rfl | (simp only [vcS] <;> omega) | fail) only [↓ptV_l, ↓vcA, vcB, ↓vcD, vcE, ↓reduceIte, Nat.reduceEqDiff, Nat.reduceAdd, Nat.reduceMul, Nat.reduceLeDiff, Int.reduceLE, Int.reduceLT, Int.reduceEq, Int.reduceToNat, Int.reduceAdd, Int.reduceSub, Int.reduceMul, Int.reduceNeg, reduceCtorEq, Option.bind_some, Option.map_some, List.length_cons, List.length_nil, vcM, List.getElem?_toArray, List.getElem?_cons_zero, List.getElem?_cons_succ, hp5, ha0])
    (refine W_at c10_ok ?_; refine ⟨_, rfl, ?_⟩; simp (disch := first | omega | assumption | rfl | (simp only [vcS] <;> omega) | fail) only [↓ptV_l, ↓vcA, vcB, ↓vcD, vcE, ↓reduceIte, Nat.reduceEqDiff, Nat.reduceAdd, Nat.reduceMul, Nat.reduceLeDiff, Int.reduceLE, Int.reduceLT, Int.reduceEq, Int.reduceToNat, Int.reduceAdd, Int.reduceSub, Int.reduceMul, Int.reduceNeg, reduceCtorEq, Option.bind_some, Option.map_some, List.length_cons, List.length_nil, vcM, List.getElem?_toArray, List.getElem?_cons_zero, List.getElem?_cons_succ])
    (refine W_at c10_ok ?_; refine ⟨_, rfl, ?_⟩; simp (disch := first | omega | assumption | rfl | (simp only [vcS] <;> omega) | fail) only [↓ptV_l, ↓vcA, vcB, ↓vcD, vcE, ↓reduceIte, Nat.reduceEqDiff, Nat.reduceAdd, Nat.reduceMul, Nat.reduceLeDiff, Int.reduceLE, Int.reduceLT, Int.reduceEq, Int.reduceToNat, Int.reduceAdd, Int.reduceSub, Int.reduceMul, Int.reduceNeg, reduceCtorEq, Option.bind_some, Option.map_some, List.length_cons, List.length_nil, vcM, List.getElem?_toArray, List.getElem?_cons_zero, List.getElem?_cons_succ])
    (refine W_at c10_ok ?_; refine ⟨_, rfl, ?_⟩; simp (disch := first | omega | assumption | rfl | (simp only [vcS] <;> omega) | fail) only [↓ptV_l, ↓vcA, vcB, ↓vcD, vcE, ↓reduceIte, Nat.reduceEqDiff, Nat.reduceAdd, Nat.reduceMul, Nat.reduceLeDiff, Int.reduceLE, Int.reduceLT, Int.reduceEq, Int.reduceToNat, Int.reduceAdd, Int.reduceSub, Int.reduceMul, Int.reduceNeg, reduceCtorEq, Option.bind_some, Option.map_some, List.length_cons, List.length_nil, vcM, List.getElem?_toArray, List.getElem?_cons_zero, List.getElem?_cons_succ])
    (refine W_at c10_ok ?_; refine ⟨_, rfl, ?_⟩; simp (disch := first | omega | assumption | rfl | (simp only [vcS] <;> omega) | fail) only [↓ptV_l, ↓vcA, vcB, ↓vcD, vcE, ↓reduceIte, Nat.reduceEqDiff, Nat.reduceAdd, Nat.reduceMul, Nat.reduceLeDiff, Int.reduceLE, Int.reduceLT, Int.reduceEq, Int.reduceToNat, Int.reduceAdd, Int.reduceSub, Int.reduceMul, Int.reduceNeg, reduceCtorEq, Option.bind_some, Option.map_some, List.length_cons, List.length_nil, vcM, List.getElem?_toArray, List.getElem?_cons_zero, List.getElem?_cons_succ])
    (refine W_at c10_ok ?_; refine ⟨_, rfl, ?_⟩; simp (disch := first | omega | assumption | rfl | (simp only [vcS] <;> omega) | fail) only [↓ptV_l, ↓vcA, vcB, ↓vcD, vcE, ↓reduceIte, Nat.reduceEqDiff, Nat.reduceAdd, Nat.reduceMul, Nat.reduceLeDiff, Int.reduceLE, Int.reduceLT, Int.reduceEq, Int.reduceToNat, Int.reduceAdd, Int.reduceSub, Int.reduceMul, Int.reduceNeg, reduceCtorEq, Option.bind_some, Option.map_some, List.length_cons, List.length_nil, vcM, List.getElem?_toArray, List.getElem?_cons_zero, List.getElem?_cons_succ])
    (refine W_at c10_ok ?_; refine ⟨_, rfl, ?_⟩; simp (disch := first | omega | assumption | rfl | (simp only [vcS] <;> omega) | fail) only [↓ptV_l, ↓vcA, vcB, ↓vcD, vcE, ↓reduceIte, Nat.reduceEqDiff, Nat.reduceAdd, Nat.reduceMul, Nat.reduceLeDiff, Int.reduceLE, Int.reduceLT, Int.reduceEq, Int.reduceToNat, Int.reduceAdd, Int.reduceSub, Int.reduceMul, Int.reduceNeg, reduceCtorEq, Option.bind_some, Option.map_some, List.length_cons, List.length_nil, vcM, List.getElem?_toArray, List.getElem?_cons_zero, List.getElem?_cons_succ])
    (refine W_at c10_ok ?_; refine ⟨_, rfl, ?_⟩; simp (disch := first | omega | assumption | rfl | (simp only [vcS] <;> omega) | fail) only [↓ptV_l, ↓vcA, vcB, ↓vcD, vcE, ↓reduceIte, Nat.reduceEqDiff, Nat.reduceAdd, Nat.reduceMul, Nat.reduceLeDiff, Int.reduceLE, Int.reduceLT, Int.reduceEq, Int.reduceToNat, Int.reduceAdd, Int.reduceSub, Int.reduceMul, Int.reduceNeg, reduceCtorEq, Option.bind_some, Option.map_some, List.length_cons, List.length_nil, vcM, List.getElem?_toArray, List.getElem?_cons_zero, List.getElem?_cons_succ])
    have hx : ∀ (wj : World) (v7 v8 : Value) (j : Nat) (tl : Env), j ≤ 40 → j ≤ na → Ext w1 wj → wj.ownsRow w1.heap.size 54 32 v7 j (names (bs.take j)) → wj.ownsRow w1.heap.size 47 32 v8 j (names (bs.take j)) →
        W Try.prog (Ret fun u w' => Done2 w0 w m w' n b u ws ∧ Keep (Own b m) w w') 10 9 ((0, .pointer (some ⟨b, 0, none⟩)) :: (4, .pointer (some ⟨w.heap.size, 0, none⟩)) :: (5, .pointer (some ⟨w.heap.size + 1, 0, none⟩)) :: (6, .pointer (some ⟨w.heap.size + 1 + 1, 0, none⟩)) :: (7, v7) :: (8, v8) :: tl) wj := by
      intro wj v7 v8 j tl hj40 hjn hEj h7 h8
      have hlen : ((bs.take j).map nameC).length = j := by rw [List.length_map, List.length_take, ha.len]; omega
      have hHK : ∀ k ∈ (bs.take j).map nameC, HK k := fun k hk => by obtain ⟨x, _, rfl⟩ := List.mem_map.1 hk; exact nameC_HK x
      have hp4j := hEj.at hp4 fun h => h
      have hp5j := hEj.at hp5 fun h => h
      have hp6j := hEj.at hp6 fun h => h
      have hE1j : Ext w wj := hE1.ext hEj
      (refine W_at c10_ok ?_; refine ⟨_, rfl, ?_⟩; simp (disch := first | omega | assumption | rfl | (simp only [vcS] <;> omega) | fail) only [↓ptV_l, ↓vcA, vcB, ↓vcD, vcE, ↓reduceIte, Nat.reduceEqDiff, Nat.reduceAdd, Nat.reduceMul, Nat.reduceLeDiff, Int.reduceLE, Int.reduceLT, Int.reduceEq, Int.reduceToNat, Int.reduceAdd, Int.reduceSub, Int.reduceMul, Int.reduceNeg, reduceCtorEq, Option.bind_some, Option.map_some, List.length_cons, List.length_nil, vcM, List.getElem?_toArray, List.getElem?_cons_zero, List.getElem?_cons_succ, hp5j, ha3])
      have hI7 : IdsAt 54 wj v7 ((bs.take j).map nameC) := ⟨⟨_, by rw [hlen]; exact h7⟩, hHK⟩
      have hI8 : IdsAt 47 wj v8 ((bs.take j).map nameC) := ⟨⟨_, by rw [hlen]; exact h8⟩, hHK⟩
      refine callV_ret (block_ok wj b cnt m ws h v7 _ (hB.book.keep hE1j (fun h => h) fun _ _ h => h) hB.bok hI7) ?_
      intro _ w3 hTo
      obtain ⟨m', hb3, hm3, hE3, hr3, hk3, hp3⟩ := hB.step2 hE1j hTo
      have hp4' := hp3 _ _ (Nat.le_refl _) hp4j
      have hp5' := hp3 _ _ (by omega) hp5j
      have hp6' := hp3 _ _ (by omega) hp6j
      have hI8' : IdsAt 47 w3 v8 ((bs.take j).map nameC) := by
        obtain ⟨m2, _, hK2, _⟩ := hTo
        refine Fees.IdsAt.keep hI8 hK2 ?_
        rintro g cur hg (rfl | rfl)
        · have := hE1j.at hB.book.1 fun h => h
          rw [hg] at this; cases this
        · obtain ⟨es, cc, hr, _⟩ := hB.book.2.2.1
          have := hE1j.at hr fun h => h
          rw [hg] at this; cases this
      (refine W_at c10_ok ?_; refine ⟨_, rfl, ?_⟩; simp (disch := first | omega | assumption | rfl | (simp only [vcS] <;> omega) | fail) only [↓ptV_l, ↓vcA, vcB, ↓vcD, vcE, ↓reduceIte, Nat.reduceEqDiff, Nat.reduceAdd, Nat.reduceMul, Nat.reduceLeDiff, Int.reduceLE, Int.reduceLT, Int.reduceEq, Int.reduceToNat, Int.reduceAdd, Int.reduceSub, Int.reduceMul, Int.reduceNeg, reduceCtorEq, Option.bind_some, Option.map_some, List.length_cons, List.length_nil, vcM, List.getElem?_toArray, List.getElem?_cons_zero, List.getElem?_cons_succ, hp4', hp5', ha3, hsz, ext_all])
      refine callV_ret (rblock_ok w3 rc v ws h v8 _ hl hr3 hI8' hB.bok (Nat.le_trans hB.len hn)) ?_
      intro u w5 hR
      obtain ⟨hRel, hws, hBO, hL⟩ := Rel.hits (ht := h) (ids := (bs.take j).map nameC) hB.rel.fade hB.bok
      have hG := Good.hits (ht := h) (ids := (bs.take j).map nameC) (hB.good.fade (by omega)) hB.bok (by rw [hlen]; omega)
      rw [hlen] at hG
      rw [← hws] at hR
      obtain ⟨cs, rfl, hcs, hcf, hq5, hq6, hD⟩ := hend w3 w5 m' _ _ u _ hb3 hm3 hE3 hk3 hp6' hR hRel (hG.mono (by omega)) hBO (Nat.le_trans hL (Nat.le_succ_of_le hB.len)) Dist_hits
      simp (disch := first | omega | assumption | rfl | (simp only [vcS] <;> omega) | fail) only [↓ptV_l, ↓vcA, vcB, ↓vcD, vcE, ↓reduceIte, Nat.reduceEqDiff, Nat.reduceAdd, Nat.reduceMul, Nat.reduceLeDiff, Int.reduceLE, Int.reduceLT, Int.reduceEq, Int.reduceToNat, Int.reduceAdd, Int.reduceSub, Int.reduceMul, Int.reduceNeg, reduceCtorEq, Option.bind_some, Option.map_some, List.length_cons, List.length_nil, vcM, List.getElem?_toArray, List.getElem?_cons_zero, List.getElem?_cons_succ, hcs, hq5, hz]
      refine ⟨hcf, ?_⟩
      (refine W_at c10_ok ?_; refine ⟨_, rfl, ?_⟩; simp (disch := first | omega | assumption | rfl | (simp only [vcS] <;> omega) | fail) only [↓ptV_l, ↓vcA, vcB, ↓vcD, vcE, ↓reduceIte, Nat.reduceEqDiff, Nat.reduceAdd, Nat.reduceMul, Nat.reduceLeDiff, Int.reduceLE, Int.reduceLT, Int.reduceEq, Int.reduceToNat, Int.reduceAdd, Int.reduceSub, Int.reduceMul, Int.reduceNeg, reduceCtorEq, Option.bind_some, Option.map_some, List.length_cons, List.length_nil, vcM, List.getElem?_toArray, List.getElem?_cons_zero, List.getElem?_cons_succ, hq6, hcs, ext_all, Ret_returned])
      exact hD
    have hwb := hB.ext.size
    have L : ∀ (n' j : Nat) (wj : World) (v7 v8 : Value), n' + j = 40 → j ≤ na → Ext w1 wj → wj.ownsRow w1.heap.size 54 32 v7 j (names (bs.take j)) → wj.ownsRow w1.heap.size 47 32 v8 j (names (bs.take j)) →
        W Try.prog (Ret fun u w' => Done2 w0 w m w' n b u ws ∧ Keep (Own b m) w w') 10 14 [(0, .pointer (some ⟨b, 0, none⟩)), (4, .pointer (some ⟨w.heap.size, 0, none⟩)), (5, .pointer (some ⟨w.heap.size + 1, 0, none⟩)), (6, .pointer (some ⟨w.heap.size + 1 + 1, 0, none⟩)), (7, v7), (8, v8), (9, .int .i64 j)] wj := by
      intro n'
      induction n' with
      | zero =>
        intro j wj v7 v8 hj hjn hEj h7 h8
        have hp5j := hEj.at hp5 fun h => h
        have h40 : ¬ ((j : Int) < 40) := by omega
        by_cases hlt : (j : Int) < (na : Int)
        · (refine W_at c10_ok ?_; refine ⟨_, rfl, ?_⟩; simp (disch := first | omega | assumption | rfl | (simp only [vcS] <;> omega) | fail) only [↓ptV_l, ↓vcA, vcB, ↓vcD, vcE, ↓reduceIte, Nat.reduceEqDiff, Nat.reduceAdd, Nat.reduceMul, Nat.reduceLeDiff, Int.reduceLE, Int.reduceLT, Int.reduceEq, Int.reduceToNat, Int.reduceAdd, Int.reduceSub, Int.reduceMul, Int.reduceNeg, reduceCtorEq, Option.bind_some, Option.map_some, List.length_cons, List.length_nil, vcM, List.getElem?_toArray, List.getElem?_cons_zero, List.getElem?_cons_succ, hp5j, ha4, hlt, h40])
          (refine W_at c10_ok ?_; refine ⟨_, rfl, ?_⟩; simp (disch := first | omega | assumption | rfl | (simp only [vcS] <;> omega) | fail) only [↓ptV_l, ↓vcA, vcB, ↓vcD, vcE, ↓reduceIte, Nat.reduceEqDiff, Nat.reduceAdd, Nat.reduceMul, Nat.reduceLeDiff, Int.reduceLE, Int.reduceLT, Int.reduceEq, Int.reduceToNat, Int.reduceAdd, Int.reduceSub, Int.reduceMul, Int.reduceNeg, reduceCtorEq, Option.bind_some, Option.map_some, List.length_cons, List.length_nil, vcM, List.getElem?_toArray, List.getElem?_cons_zero, List.getElem?_cons_succ])
          exact hx wj v7 v8 j _ (by omega) hjn hEj h7 h8
        · (refine W_at c10_ok ?_; refine ⟨_, rfl, ?_⟩; simp (disch := first | omega | assumption | rfl | (simp only [vcS] <;> omega) | fail) only [↓ptV_l, ↓vcA, vcB, ↓vcD, vcE, ↓reduceIte, Nat.reduceEqDiff, Nat.reduceAdd, Nat.reduceMul, Nat.reduceLeDiff, Int.reduceLE, Int.reduceLT, Int.reduceEq, Int.reduceToNat, Int.reduceAdd, Int.reduceSub, Int.reduceMul, Int.reduceNeg, reduceCtorEq, Option.bind_some, Option.map_some, List.length_cons, List.length_nil, vcM, List.getElem?_toArray, List.getElem?_cons_zero, List.getElem?_cons_succ, hp5j, ha4, hlt])
          (refine W_at c10_ok ?_; refine ⟨_, rfl, ?_⟩; simp (disch := first | omega | assumption | rfl | (simp only [vcS] <;> omega) | fail) only [↓ptV_l, ↓vcA, vcB, ↓vcD, vcE, ↓reduceIte, Nat.reduceEqDiff, Nat.reduceAdd, Nat.reduceMul, Nat.reduceLeDiff, Int.reduceLE, Int.reduceLT, Int.reduceEq, Int.reduceToNat, Int.reduceAdd, Int.reduceSub, Int.reduceMul, Int.reduceNeg, reduceCtorEq, Option.bind_some, Option.map_some, List.length_cons, List.length_nil, vcM, List.getElem?_toArray, List.getElem?_cons_zero, List.getElem?_cons_succ])
          exact hx wj v7 v8 j _ (by omega) hjn hEj h7 h8
      | succ n' ih =>
        intro j wj v7 v8 hj hjn hEj h7 h8
        have hp5j := hEj.at hp5 fun h => h
        have h40 : (j : Int) < 40 := by omega
        by_cases hlt : (j : Int) < (na : Int)
        · have hj2 : 0 ≤ (j : Int) ∧ (j : Int) < (na : Int) := by omega
          have hjl : j < bs.length := by rw [ha.len]; omega
          have haj := ha.keep (hB.ext.ext (hE1.ext hEj))
          obtain ⟨gb, go, rfl, hcell⟩ := rd_at haj.rd (i := j) (by omega)
          have hcell2 : cellO wj.heap[gb]? (go + j) = some (.int .u8 bs[j]) := by rw [hcell]; simp [hjl]
          have hEj1 : ∀ w', Ext wj w' → cellO w'.heap[gb]? (go + j) = some (.int .u8 bs[j]) := by
            intro w' hE'
            obtain ⟨_, _, e, hc⟩ := rd_at (haj.keep hE').rd (i := j) (by omega)
            cases e; rw [hc]; simp [hjl]
          have hp5E : ∀ w', Ext wj w' → w'.heap[w.heap.size + 1]? = some (.cells a 35 (0, 0)) := fun w' hE' => hE'.at hp5j fun h => h
          (refine W_at c10_ok ?_; refine ⟨_, rfl, ?_⟩; simp (disch := first | omega | assumption | rfl | (simp only [vcS] <;> omega) | fail) only [↓ptV_l, ↓vcA, vcB, ↓vcD, vcE, ↓reduceIte, Nat.reduceEqDiff, Nat.reduceAdd, Nat.reduceMul, Nat.reduceLeDiff, Int.reduceLE, Int.reduceLT, Int.reduceEq, Int.reduceToNat, Int.reduceAdd, Int.reduceSub, Int.reduceMul, Int.reduceNeg, reduceCtorEq, Option.bind_some, Option.map_some, List.length_cons, List.length_nil, vcM, List.getElem?_toArray, List.getElem?_cons_zero, List.getElem?_cons_succ, hp5j, ha4, hlt, h40])
          (refine W_at c10_ok ?_; refine ⟨_, rfl, ?_⟩; simp (disch := first | omega | assumption | rfl | (simp only [vcS] <;> omega) | fail) only [↓ptV_l, ↓vcA, vcB, ↓vcD, vcE, ↓reduceIte, Nat.reduceEqDiff, Nat.reduceAdd, Nat.reduceMul, Nat.reduceLeDiff, Int.reduceLE, Int.reduceLT, Int.reduceEq, Int.reduceToNat, Int.reduceAdd, Int.reduceSub, Int.reduceMul, Int.reduceNeg, reduceCtorEq, Option.bind_some, Option.map_some, List.length_cons, List.length_nil, vcM, List.getElem?_toArray, List.getElem?_cons_zero, List.getElem?_cons_succ])
          (refine W_at c10_ok ?_; refine ⟨_, rfl, ?_⟩; simp (disch := first | omega | assumption | rfl | (simp only [vcS] <;> omega) | fail) only [↓ptV_l, ↓vcA, vcB, ↓vcD, vcE, ↓reduceIte, Nat.reduceEqDiff, Nat.reduceAdd, Nat.reduceMul, Nat.reduceLeDiff, Int.reduceLE, Int.reduceLT, Int.reduceEq, Int.reduceToNat, Int.reduceAdd, Int.reduceSub, Int.reduceMul, Int.reduceNeg, reduceCtorEq, Option.bind_some, Option.map_some, List.length_cons, List.length_nil, vcM, List.getElem?_toArray, List.getElem?_cons_zero, List.getElem?_cons_succ, hp5j, ha4, hj2, Int.toNat_natCast, Nat.mul_one, hcell2])
          refine callV_ret (name_ok bs[j] _) ?_
          rintro _ w2 ⟨rfl, hE2⟩
          have hE2' : Ext wj w2 := (by (repeat' first | exact Keep.refl _ _ | assumption | refine Keep.drew ?_ | refine Keep.alloc ?_ _ | refine Keep.putN ?_ _ ?_ | refine Keep.setCell ?_ _ ?_ | refine Keep.setO ?_ _ ?_ | exact fun _ => Or.inl rfl | exact fun _ => Or.inr rfl | exact fun _ => rfl | (intro hh; exfalso; ((try simp only [vcS] at hh) <;> omega))) : Ext wj _).ext hE2
          have hnl : (nameC bs[j]).toList.length = 32 := by rw [Array.length_toList]; exact nameC_size _
          have hnf : flat (nameC bs[j]).toList.toArray := by rw [Array.toArray_toList]; exact HK_flat (nameC_HK _)
          have hns := nameC_size bs[j]
          have hb54 : w1.heap.size ≤ w2.heap.size := by have := hEj.size; have := hE2'.size; omega
          have hne54 : ∀ (wx : World) (vx vy : Value) (nx ny : Nat) (xs ys : List Value), wx.ownsRow w1.heap.size 54 32 vx nx xs → wx.ownsRow w1.heap.size 47 32 vy ny ys → ∀ g, vx.ownBlock = some g → ¬ vy.ownBlock = some g := by
            intro wx vx vy nx ny xs ys h1 h2 g hg1 hg2
            obtain ⟨c1, e1⟩ := row_type h1 hg1
            obtain ⟨c2, e2⟩ := row_type h2 hg2
            rw [e1] at e2; cases e2
          -- what an append onto one of the two rows leaves of the rest
          have hrest : ∀ (wx wy : World) (vx : Value) (el nx : Nat) (xs : List Value), Ext w1 wx → wx.ownsRow w1.heap.size el 32 vx nx xs → Keep (fun g => vx.ownBlock = some g) wx wy → Ext w1 wy := by
            intro wx wy vx el nx xs hX hr hK
            refine hX.trans hK fun i hi ho => ?_
            have := own_block hr ho; omega
          have hcellE : ∀ w', Ext w1 w' → cellO w'.heap[gb]? (go + j) = some (.int .u8 bs[j]) := by
            intro w' hE'
            obtain ⟨_, _, e, hc⟩ := rd_at (ha.keep (hB.ext.ext (hE1.ext hE'))).rd (i := j) (by omega)
            cases e; rw [hc]; simp [hjl]
          have hactE : ∀ w', Ext w1 w' → cellO w'.heap[w.heap.size + 1]? 4 = some (.slice (some ⟨gb, go, none⟩) na c) := fun w' hE' => by rw [hE'.at hp5 fun h => h, cellO_some, ha4]
          have hX2 : Ext w1 w2 := hEj.ext hE2'
          refine ⟨⟨hcellE _ hX2, hactE _ hX2⟩, ?_⟩
          simp (disch := first | omega | assumption | rfl | (simp only [vcS] <;> omega) | fail) only [↓ptV_l, ↓vcA, vcB, ↓vcD, vcE, ↓reduceIte, Nat.reduceEqDiff, Nat.reduceAdd, Nat.reduceMul, Nat.reduceLeDiff, Int.reduceLE, Int.reduceLT, Int.reduceEq, Int.reduceToNat, Int.reduceAdd, Int.reduceSub, Int.reduceMul, Int.reduceNeg, reduceCtorEq, Option.bind_some, Option.map_some, List.length_cons, List.length_nil, vcM, List.getElem?_toArray, List.getElem?_cons_zero, List.getElem?_cons_succ, cells_agg, hns, List.append_nil]
          have hX3 : Ext w1 (w2.alloc (Obj.cells (nameC bs[j]).toList.toArray 54)) := hX2.ext ((Keep.refl _ w2).alloc _)
          refine ⟨⟨hcellE _ hX3, hactE _ hX3⟩, ?_⟩
          have h7' := ownsRow_keep h7 hE2' fun _ _ h => h
          have h8' := ownsRow_keep h8 hE2' fun _ _ h => h
          refine appV_one h7' hnl hnf (by simp only [maxLen]; omega) (by omega) rfl hb54 (by omega) ?_
          intro v7' w4 h74 hK4
          have hX4 := hrest _ _ _ _ _ _ hX2 h7' hK4
          have h84 := ownsRow_keep h8' hK4 fun g hg hg' => hne54 _ _ _ _ _ _ _ h7' h8' g hg' hg
          refine ⟨⟨hcellE _ hX4, hactE _ hX4⟩, ?_⟩
          refine callV_ret (name_ok bs[j] _) ?_
          rintro _ w5 ⟨rfl, hE5⟩
          have hX5 := hX4.ext hE5
          simp (disch := first | omega | assumption | rfl | (simp only [vcS] <;> omega) | fail) only [↓ptV_l, ↓vcA, vcB, ↓vcD, vcE, ↓reduceIte, Nat.reduceEqDiff, Nat.reduceAdd, Nat.reduceMul, Nat.reduceLeDiff, Int.reduceLE, Int.reduceLT, Int.reduceEq, Int.reduceToNat, Int.reduceAdd, Int.reduceSub, Int.reduceMul, Int.reduceNeg, reduceCtorEq, Option.bind_some, Option.map_some, List.length_cons, List.length_nil, vcM, List.getElem?_toArray, List.getElem?_cons_zero, List.getElem?_cons_succ, cells_agg, hns, List.append_nil]
          have h75 := ownsRow_keep h74 hE5 fun _ _ h => h
          have h85 := ownsRow_keep h84 hE5 fun _ _ h => h
          refine appV_one h85 hnl hnf (by simp only [maxLen]; omega) (by omega) rfl (by have := hX5.size; omega) (by omega) ?_
          intro v8' w6 h86 hK6
          have hX6 := hrest _ _ _ _ _ _ hX5 h85 hK6
          have h76 := ownsRow_keep h75 hK6 fun g hg hg' => hne54 _ _ _ _ _ _ _ h75 h85 g hg hg'
          have hwj : IntKind.i64.wrap ((j : Int) + 1) = ((j + 1 : Nat) : Int) := wrap_i64 (by omega) (by omega)
          (refine W_at c10_ok ?_; refine ⟨_, rfl, ?_⟩; simp (disch := first | omega | assumption | rfl | (simp only [vcS] <;> omega) | fail) only [↓ptV_l, ↓vcA, vcB, ↓vcD, vcE, ↓reduceIte, Nat.reduceEqDiff, Nat.reduceAdd, Nat.reduceMul, Nat.reduceLeDiff, Int.reduceLE, Int.reduceLT, Int.reduceEq, Int.reduceToNat, Int.reduceAdd, Int.reduceSub, Int.reduceMul, Int.reduceNeg, reduceCtorEq, Option.bind_some, Option.map_some, List.length_cons, List.length_nil, vcM, List.getElem?_toArray, List.getElem?_cons_zero, List.getElem?_cons_succ, hwj])
          (refine W_at c10_ok ?_; refine ⟨_, rfl, ?_⟩; simp (disch := first | omega | assumption | rfl | (simp only [vcS] <;> omega) | fail) only [↓ptV_l, ↓vcA, vcB, ↓vcD, vcE, ↓reduceIte, Nat.reduceEqDiff, Nat.reduceAdd, Nat.reduceMul, Nat.reduceLeDiff, Int.reduceLE, Int.reduceLT, Int.reduceEq, Int.reduceToNat, Int.reduceAdd, Int.reduceSub, Int.reduceMul, Int.reduceNeg, reduceCtorEq, Option.bind_some, Option.map_some, List.length_cons, List.length_nil, vcM, List.getElem?_toArray, List.getElem?_cons_zero, List.getElem?_cons_succ])
          have hnm : names (bs.take (j + 1)) = names (bs.take j) ++ (nameC bs[j]).toList := by
            simp only [names, List.take_succ_eq_append_getElem hjl, List.map_append, List.flatMap_append, List.map_cons, List.map_nil, List.flatMap_cons, List.flatMap_nil, List.append_nil]
          exact ih (j + 1) w6 v7' v8' (by omega) (by omega) hX6 (by rw [hnm]; exact h76) (by rw [hnm]; exact h86)
        · (refine W_at c10_ok ?_; refine ⟨_, rfl, ?_⟩; simp (disch := first | omega | assumption | rfl | (simp only [vcS] <;> omega) | fail) only [↓ptV_l, ↓vcA, vcB, ↓vcD, vcE, ↓reduceIte, Nat.reduceEqDiff, Nat.reduceAdd, Nat.reduceMul, Nat.reduceLeDiff, Int.reduceLE, Int.reduceLT, Int.reduceEq, Int.reduceToNat, Int.reduceAdd, Int.reduceSub, Int.reduceMul, Int.reduceNeg, reduceCtorEq, Option.bind_some, Option.map_some, List.length_cons, List.length_nil, vcM, List.getElem?_toArray, List.getElem?_cons_zero, List.getElem?_cons_succ, hp5j, ha4, hlt])
          (refine W_at c10_ok ?_; refine ⟨_, rfl, ?_⟩; simp (disch := first | omega | assumption | rfl | (simp only [vcS] <;> omega) | fail) only [↓ptV_l, ↓vcA, vcB, ↓vcD, vcE, ↓reduceIte, Nat.reduceEqDiff, Nat.reduceAdd, Nat.reduceMul, Nat.reduceLeDiff, Int.reduceLE, Int.reduceLT, Int.reduceEq, Int.reduceToNat, Int.reduceAdd, Int.reduceSub, Int.reduceMul, Int.reduceNeg, reduceCtorEq, Option.bind_some, Option.map_some, List.length_cons, List.length_nil, vcM, List.getElem?_toArray, List.getElem?_cons_zero, List.getElem?_cons_succ])
          exact hx wj v7 v8 j _ (by omega) hjn hEj h7 h8
    refine L 40 0 w1 (.slice none 0 0) (.slice none 0 0) rfl (Nat.zero_le _) (Keep.refl _ w1) ?_ ?_
    · exact ⟨rfl, .inl ⟨rfl, rfl⟩⟩
    · exact ⟨rfl, .inl ⟨rfl, rfl⟩⟩
  · (refine W_at c10_ok ?_; refine ⟨_, rfl, ?_⟩; simp (disch := first | omega | assumption | rfl | (simp only [vcS] <;> omega) | fail) only [↓ptV_l, ↓vcA, vcB, ↓vcD, vcE, ↓reduceIte, Nat.reduceEqDiff, Nat.reduceAdd, Nat.reduceMul, Nat.reduceLeDiff, Int.reduceLE, Int.reduceLT, Int.reduceEq, Int.reduceToNat, Int.reduceAdd, Int.reduceSub, Int.reduceMul, Int.reduceNeg, reduceCtorEq, Option.bind_some, Option.map_some, List.length_cons, List.length_nil, vcM, List.getElem?_toArray, List.getElem?_cons_zero, List.getElem?_cons_succ, hp5, ha0])
    (refine W_at c10_ok ?_; refine ⟨_, rfl, ?_⟩; simp (disch := first | omega | assumption | rfl | (simp only [vcS] <;> omega) | fail) only [↓ptV_l, ↓vcA, vcB, ↓vcD, vcE, ↓reduceIte, Nat.reduceEqDiff, Nat.reduceAdd, Nat.reduceMul, Nat.reduceLeDiff, Int.reduceLE, Int.reduceLT, Int.reduceEq, Int.reduceToNat, Int.reduceAdd, Int.reduceSub, Int.reduceMul, Int.reduceNeg, reduceCtorEq, Option.bind_some, Option.map_some, List.length_cons, List.length_nil, vcM, List.getElem?_toArray, List.getElem?_cons_zero, List.getElem?_cons_succ, hk1])
    (refine W_at c10_ok ?_; refine ⟨_, rfl, ?_⟩; simp (disch := first | omega | assumption | rfl | (simp only [vcS] <;> omega) | fail) only [↓ptV_l, ↓vcA, vcB, ↓vcD, vcE, ↓reduceIte, Nat.reduceEqDiff, Nat.reduceAdd, Nat.reduceMul, Nat.reduceLeDiff, Int.reduceLE, Int.reduceLT, Int.reduceEq, Int.reduceToNat, Int.reduceAdd, Int.reduceSub, Int.reduceMul, Int.reduceNeg, reduceCtorEq, Option.bind_some, Option.map_some, List.length_cons, List.length_nil, vcM, List.getElem?_toArray, List.getElem?_cons_zero, List.getElem?_cons_succ])
    (refine W_at c10_ok ?_; refine ⟨_, rfl, ?_⟩; simp (disch := first | omega | assumption | rfl | (simp only [vcS] <;> omega) | fail) only [↓ptV_l, ↓vcA, vcB, ↓vcD, vcE, ↓reduceIte, Nat.reduceEqDiff, Nat.reduceAdd, Nat.reduceMul, Nat.reduceLeDiff, Int.reduceLE, Int.reduceLT, Int.reduceEq, Int.reduceToNat, Int.reduceAdd, Int.reduceSub, Int.reduceMul, Int.reduceNeg, reduceCtorEq, Option.bind_some, Option.map_some, List.length_cons, List.length_nil, vcM, List.getElem?_toArray, List.getElem?_cons_zero, List.getElem?_cons_succ, hk2])
    (refine W_at c10_ok ?_; refine ⟨_, rfl, ?_⟩; simp (disch := first | omega | assumption | rfl | (simp only [vcS] <;> omega) | fail) only [↓ptV_l, ↓vcA, vcB, ↓vcD, vcE, ↓reduceIte, Nat.reduceEqDiff, Nat.reduceAdd, Nat.reduceMul, Nat.reduceLeDiff, Int.reduceLE, Int.reduceLT, Int.reduceEq, Int.reduceToNat, Int.reduceAdd, Int.reduceSub, Int.reduceMul, Int.reduceNeg, reduceCtorEq, Option.bind_some, Option.map_some, List.length_cons, List.length_nil, vcM, List.getElem?_toArray, List.getElem?_cons_zero, List.getElem?_cons_succ])
    (refine W_at c10_ok ?_; refine ⟨_, rfl, ?_⟩; simp (disch := first | omega | assumption | rfl | (simp only [vcS] <;> omega) | fail) only [↓ptV_l, ↓vcA, vcB, ↓vcD, vcE, ↓reduceIte, Nat.reduceEqDiff, Nat.reduceAdd, Nat.reduceMul, Nat.reduceLeDiff, Int.reduceLE, Int.reduceLT, Int.reduceEq, Int.reduceToNat, Int.reduceAdd, Int.reduceSub, Int.reduceMul, Int.reduceNeg, reduceCtorEq, Option.bind_some, Option.map_some, List.length_cons, List.length_nil, vcM, List.getElem?_toArray, List.getElem?_cons_zero, List.getElem?_cons_succ, hp5, ha1, ha2, ha3])
    refine callV_ret (name_ok id _) ?_
    rintro _ w2 ⟨rfl, hE2⟩
    have hE12 : Ext w w2 := (by (repeat' first | exact Keep.refl _ _ | assumption | refine Keep.drew ?_ | refine Keep.alloc ?_ _ | refine Keep.putN ?_ _ ?_ | refine Keep.setCell ?_ _ ?_ | refine Keep.setO ?_ _ ?_ | exact fun _ => Or.inl rfl | exact fun _ => Or.inr rfl | exact fun _ => rfl | (intro hh; exfalso; ((try simp only [vcS] at hh) <;> omega))) : Ext w w1).ext ((by (repeat' first | exact Keep.refl _ _ | assumption | refine Keep.drew ?_ | refine Keep.alloc ?_ _ | refine Keep.putN ?_ _ ?_ | refine Keep.setCell ?_ _ ?_ | refine Keep.setO ?_ _ ?_ | exact fun _ => Or.inl rfl | exact fun _ => Or.inr rfl | exact fun _ => rfl | (intro hh; exfalso; ((try simp only [vcS] at hh) <;> omega))) : Ext w1 _).ext hE2)
    have hp5' := hE2.at (show w1.drew.heap[w.heap.size + 1]? = _ from hp5) fun h => h
    simp (disch := first | omega | assumption | rfl | (simp only [vcS] <;> omega) | fail) only [↓ptV_l, ↓vcA, vcB, ↓vcD, vcE, ↓reduceIte, Nat.reduceEqDiff, Nat.reduceAdd, Nat.reduceMul, Nat.reduceLeDiff, Int.reduceLE, Int.reduceLT, Int.reduceEq, Int.reduceToNat, Int.reduceAdd, Int.reduceSub, Int.reduceMul, Int.reduceNeg, reduceCtorEq, Option.bind_some, Option.map_some, List.length_cons, List.length_nil, vcM, List.getElem?_toArray, List.getElem?_cons_zero, List.getElem?_cons_succ, hp5', ha3, ha2]
    refine callV_ret (enter_ok w2 b cnt m ws _ rate h (hB.book.keep hE12 (fun h => h) fun _ _ h => h) (nameC_HK id)) ?_
    intro _ w3 hTo
    obtain ⟨m', hb3, hm3, hE3, hr3, hk3, hp3⟩ := hB.step2 hE12 hTo
    have hp4' := hp3 _ _ (Nat.le_refl _) (hE2.at (show w1.drew.heap[w.heap.size]? = _ from hp4) fun h => h)
    have hp5'' := hp3 _ _ (by omega) hp5'
    have hp6' := hp3 _ _ (by omega) (hE2.at (show w1.drew.heap[w.heap.size + 2]? = _ from hp6) fun h => h)
    (refine W_at c10_ok ?_; refine ⟨_, rfl, ?_⟩; simp (disch := first | omega | assumption | rfl | (simp only [vcS] <;> omega) | fail) only [↓ptV_l, ↓vcA, vcB, ↓vcD, vcE, ↓reduceIte, Nat.reduceEqDiff, Nat.reduceAdd, Nat.reduceMul, Nat.reduceLeDiff, Int.reduceLE, Int.reduceLT, Int.reduceEq, Int.reduceToNat, Int.reduceAdd, Int.reduceSub, Int.reduceMul, Int.reduceNeg, reduceCtorEq, Option.bind_some, Option.map_some, List.length_cons, List.length_nil, vcM, List.getElem?_toArray, List.getElem?_cons_zero, List.getElem?_cons_succ, hp4', hp5'', ha1, ha2, ha3, hsz, ext_all])
    refine callV_ret (name_ok id _) ?_
    rintro _ w4 ⟨rfl, hE4⟩
    have hE34 : Ext w3 w4 := (by (repeat' first | exact Keep.refl _ _ | assumption | refine Keep.drew ?_ | refine Keep.alloc ?_ _ | refine Keep.putN ?_ _ ?_ | refine Keep.setCell ?_ _ ?_ | refine Keep.setO ?_ _ ?_ | exact fun _ => Or.inl rfl | exact fun _ => Or.inr rfl | exact fun _ => rfl | (intro hh; exfalso; ((try simp only [vcS] at hh) <;> omega))) : Ext w3 _).ext hE4
    have hp4'' := hE34.at hp4' fun h => h
    have hp54 := hE34.at hp5'' fun h => h
    simp (disch := first | omega | assumption | rfl | (simp only [vcS] <;> omega) | fail) only [↓ptV_l, ↓vcA, vcB, ↓vcD, vcE, ↓reduceIte, Nat.reduceEqDiff, Nat.reduceAdd, Nat.reduceMul, Nat.reduceLeDiff, Int.reduceLE, Int.reduceLT, Int.reduceEq, Int.reduceToNat, Int.reduceAdd, Int.reduceSub, Int.reduceMul, Int.reduceNeg, reduceCtorEq, Option.bind_some, Option.map_some, List.length_cons, List.length_nil, vcM, List.getElem?_toArray, List.getElem?_cons_zero, List.getElem?_cons_succ, hp4'', hp54, ha2, ha3, hsz, ext_all]
    have hk4 : Keep (Own b m) w w4 := hk3.ext hE34
    refine callV_ret (renter_ok w4 rc v ws _ rate h hl (hr3.keep hE34 fun _ _ h => h) (nameC_HK id) (Nat.le_trans hB.len hn)) ?_
    intro u w5 hR
    obtain ⟨cs, rfl, hcs, hcf, hq5, hq6, hD⟩ := hend w4 w5 m' cnt rc u _ (hb3.keep hE34 (fun h => h) fun _ _ h => h) hm3 (hE3.ext hE34) hk4 (hE34.at hp6' fun h => h) hR hB.rel (hB.good.mono (by omega)) (BOK_ent hB.bok) (Nat.le_trans (entW_len _ _ _ _) (Nat.succ_le_succ hB.len)) Dist_ent
    simp (disch := first | omega | assumption | rfl | (simp only [vcS] <;> omega) | fail) only [↓ptV_l, ↓vcA, vcB, ↓vcD, vcE, ↓reduceIte, Nat.reduceEqDiff, Nat.reduceAdd, Nat.reduceMul, Nat.reduceLeDiff, Int.reduceLE, Int.reduceLT, Int.reduceEq, Int.reduceToNat, Int.reduceAdd, Int.reduceSub, Int.reduceMul, Int.reduceNeg, reduceCtorEq, Option.bind_some, Option.map_some, List.length_cons, List.length_nil, vcM, List.getElem?_toArray, List.getElem?_cons_zero, List.getElem?_cons_succ, hcs, hq5, hz]
    refine ⟨hcf, ?_⟩
    (refine W_at c10_ok ?_; refine ⟨_, rfl, ?_⟩; simp (disch := first | omega | assumption | rfl | (simp only [vcS] <;> omega) | fail) only [↓ptV_l, ↓vcA, vcB, ↓vcD, vcE, ↓reduceIte, Nat.reduceEqDiff, Nat.reduceAdd, Nat.reduceMul, Nat.reduceLeDiff, Int.reduceLE, Int.reduceLT, Int.reduceEq, Int.reduceToNat, Int.reduceAdd, Int.reduceSub, Int.reduceMul, Int.reduceNeg, reduceCtorEq, Option.bind_some, Option.map_some, List.length_cons, List.length_nil, vcM, List.getElem?_toArray, List.getElem?_cons_zero, List.getElem?_cons_succ, hq6, hcs, ext_all, Ret_returned])
    exact hD
end Go.Proofs
