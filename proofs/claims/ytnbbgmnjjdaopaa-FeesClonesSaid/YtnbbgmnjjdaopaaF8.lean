/- The document's Block: the second half. -/
import Derived.Test.YtnbbgmnjjdaopaaF7
set_option linter.unusedSimpArgs false
set_option linter.unusedVariables false
set_option linter.constructorNameAsVariable false
namespace Go.Proofs
open Go.Vc Go.Proofs.Fees
set_option maxRecDepth 10000

def rhitC (h : Int) (e : WE) (c : List Int) : List Int := hitT (23 + e.2.1.toNat * 12) (waitedF h e.2.2) 12 (c.set e.2.1.toNat (IntKind.i64.wrap (c.getD e.2.1.toNat 0 + 1000)))
noncomputable def rhits (h : Int) : List (Array Value) → List Int → List WE → List Int × List WE
  | [], c, ws => (c, ws)
  | k :: ks, c, ws => match (idxW k ws).bind (ws[·]?) with
    | none => rhits h ks c ws
    | some e => rhits h ks (rhitC h e c) (delW k ws)

theorem delW_len (k : Array Value) (ws : List WE) : (delW k ws).length ≤ ws.length := by
  unfold delW
  split
  · exact List.length_eraseIdx_le ..
  · exact Nat.le_refl _

theorem rblockB (w w0 : World) (p q : Nat) (rc : List Int) (v : Value) (ws : List WE) (vi : Value) (ids : List (Array Value)) (h : Int) (hb : RB w w0 p q rc v ws vi ids) (hB : BOK ws) (hn : ws.length ≤ 1000000) (tl : Env) :
    W Try.prog (Ret fun u w' => RefIs w w' u (rhits h ids rc ws).1 (rhits h ids rc ws).2) 25 22 ((1, .int .i64 h) :: (2, vi) :: (3, .pointer (some ⟨p, 0, none⟩)) :: (6, .pointer (some ⟨q, 0, none⟩)) :: tl) w0 := by
  obtain ⟨⟨base, hI⟩, hks⟩ := hb.ids'
  have hlen : lenR vi = some (.int .i64 ids.length) := len_row hI
  clear hI base
  have H : ∀ (n j : Nat) (w1 : World) (c : List Int) (v1 : Value) (ws1 : List WE), n + j = ids.length → RB w w1 p q c v1 ws1 vi ids → BOK ws1 → ws1.length ≤ 1000000 → rhits h (ids.drop j) c ws1 = rhits h ids rc ws →
      W Try.prog (Ret fun u w' => RefIs w w' u (rhits h ids rc ws).1 (rhits h ids rc ws).2) 25 21
        [(1, .int .i64 h), (2, vi), (3, .pointer (some ⟨p, 0, none⟩)), (6, .pointer (some ⟨q, 0, none⟩)), (9, .int .i64 j)] w1 := by
    intro n
    induction n with
    | zero =>
      intro j w1 c v1 ws1 hj hb1 hB1 hn1 he
      have hj' : ¬ ((j : Int) < (ids.length : Int)) := by omega
      have hat := hb1.at'
      have hzr := hb1.zer
      have hsz : (refC c v1).size = 313 := by rw [size_refC, hb1.len]
      have hz : (zc [(312, Value.int IntKind.i64 0), (1, Value.slice none 0 0)]).size = 313 := by simp [size_zc]
      have hf := refC_flat (rc := c) (one_row hb1.row.1)
      (refine W_at c25_ok ?_; refine ⟨_, rfl, ?_⟩; simp (disch := first | omega | assumption | rfl | (simp only [vcS] <;> omega) | fail) only [↓ptV_l, ↓vcA, vcB, ↓vcD, vcE, ↓reduceIte, Nat.reduceEqDiff, Nat.reduceAdd, Nat.reduceMul, Nat.reduceLeDiff, Int.reduceLE, Int.reduceLT, Int.reduceEq, Int.reduceToNat, Int.reduceAdd, Int.reduceSub, Int.reduceMul, Int.reduceNeg, reduceCtorEq, Option.bind_some, Option.map_some, List.length_cons, List.length_nil, vcM, List.getElem?_toArray, List.getElem?_cons_zero, List.getElem?_cons_succ, hlen, hj'])
      (refine W_at c25_ok ?_; refine ⟨_, rfl, ?_⟩; simp (disch := first | omega | assumption | rfl | (simp only [vcS] <;> omega) | fail) only [↓ptV_l, ↓vcA, vcB, ↓vcD, vcE, ↓reduceIte, Nat.reduceEqDiff, Nat.reduceAdd, Nat.reduceMul, Nat.reduceLeDiff, Int.reduceLE, Int.reduceLT, Int.reduceEq, Int.reduceToNat, Int.reduceAdd, Int.reduceSub, Int.reduceMul, Int.reduceNeg, reduceCtorEq, Option.bind_some, Option.map_some, List.length_cons, List.length_nil, vcM, List.getElem?_toArray, List.getElem?_cons_zero, List.getElem?_cons_succ])
      (refine W_at c25_ok ?_; refine ⟨_, rfl, ?_⟩; simp (disch := first | omega | assumption | rfl | (simp only [vcS] <;> omega) | fail) only [↓ptV_l, ↓vcA, vcB, ↓vcD, vcE, ↓reduceIte, Nat.reduceEqDiff, Nat.reduceAdd, Nat.reduceMul, Nat.reduceLeDiff, Int.reduceLE, Int.reduceLT, Int.reduceEq, Int.reduceToNat, Int.reduceAdd, Int.reduceSub, Int.reduceMul, Int.reduceNeg, reduceCtorEq, Option.bind_some, Option.map_some, List.length_cons, List.length_nil, vcM, List.getElem?_toArray, List.getElem?_cons_zero, List.getElem?_cons_succ, hat, hzr, hsz, hz, ext_all])
      refine ⟨hf, ?_⟩
      have hq : (w1.putN q 0 (refC c v1)).heap[q]? = some (.cells (refC c v1) 31 (0, 0)) := by
        rw [heap_putN_eq (by exact hzr), splice_all (by rw [hsz, hz])]
      (refine W_at c25_ok ?_; refine ⟨_, rfl, ?_⟩; simp (disch := first | omega | assumption | rfl | (simp only [vcS] <;> omega) | fail) only [↓ptV_l, ↓vcA, vcB, ↓vcD, vcE, ↓reduceIte, Nat.reduceEqDiff, Nat.reduceAdd, Nat.reduceMul, Nat.reduceLeDiff, Int.reduceLE, Int.reduceLT, Int.reduceEq, Int.reduceToNat, Int.reduceAdd, Int.reduceSub, Int.reduceMul, Int.reduceNeg, reduceCtorEq, Option.bind_some, Option.map_some, List.length_cons, List.length_nil, vcM, List.getElem?_toArray, List.getElem?_cons_zero, List.getElem?_cons_succ, hq, ext_all, hsz, Ret_returned])
      rw [List.drop_eq_nil_of_le (by omega)] at he
      rw [← he]
      have hKq : Keep (fun i => i = q) w1 (w1.putN q 0 (refC c v1)) := by (repeat' first | exact Keep.refl _ _ | assumption | refine Keep.drew ?_ | refine Keep.alloc ?_ _ | refine Keep.putN ?_ _ ?_ | refine Keep.setCell ?_ _ ?_ | refine Keep.setO ?_ _ ?_ | exact fun _ => Or.inl rfl | exact fun _ => Or.inr rfl | exact fun _ => rfl | (intro hh; exfalso; ((try simp only [vcS] at hh) <;> omega)))
      refine ⟨v1, rfl, hb1.row.keep hKq ?_, hb1.ext.trans hKq fun i hi (e : i = q) => ?_⟩
      · rintro b hob rfl
        obtain ⟨cur, hc⟩ := row_type hb1.row.1 hob
        rw [hzr] at hc; cases hc
      · have := hb1.hq; omega
    | succ n ih =>
      intro j w1 c v1 ws1 hj hb1 hB1 hn1 he
      have hj' : (j : Int) < (ids.length : Int) := by omega
      have hj2 : 0 ≤ (j : Int) ∧ (j : Int) < (ids.length : Int) := by omega
      have hjn : j < ids.length := by omega
      obtain ⟨⟨base, hI⟩, _⟩ := hb1.ids'
      obtain ⟨g, cap, cur, rfl, hg, hle, hext, _, hmax⟩ := own_at hI (fun k hk => HK_size (hks k hk)) hjn
      have hk := hks _ (List.getElem_mem hjn)
      rw [List.drop_eq_getElem_cons hjn] at he
      generalize ids[j] = k at hk he hext
      have hks' := HK_size hk
      have hkf := HK_flat hk
      have hat := hb1.at'
      have hl1 := hb1.len
      have hsz : (refC c v1).size = 313 := by rw [size_refC, hl1]
      have hwj : IntKind.i64.wrap ((j : Int) + 1) = ((j + 1 : Nat) : Int) := wrap_i64 (by omega) (by simp only [maxLen] at hmax; omega)
      (refine W_at c25_ok ?_; refine ⟨_, rfl, ?_⟩; simp (disch := first | omega | assumption | rfl | (simp only [vcS] <;> omega) | fail) only [↓ptV_l, ↓vcA, vcB, ↓vcD, vcE, ↓reduceIte, Nat.reduceEqDiff, Nat.reduceAdd, Nat.reduceMul, Nat.reduceLeDiff, Int.reduceLE, Int.reduceLT, Int.reduceEq, Int.reduceToNat, Int.reduceAdd, Int.reduceSub, Int.reduceMul, Int.reduceNeg, reduceCtorEq, Option.bind_some, Option.map_some, List.length_cons, List.length_nil, vcM, List.getElem?_toArray, List.getElem?_cons_zero, List.getElem?_cons_succ, hlen, hj'])
      (refine W_at c25_ok ?_; refine ⟨_, rfl, ?_⟩; simp (disch := first | omega | assumption | rfl | (simp only [vcS] <;> omega) | fail) only [↓ptV_l, ↓vcA, vcB, ↓vcD, vcE, ↓reduceIte, Nat.reduceEqDiff, Nat.reduceAdd, Nat.reduceMul, Nat.reduceLeDiff, Int.reduceLE, Int.reduceLT, Int.reduceEq, Int.reduceToNat, Int.reduceAdd, Int.reduceSub, Int.reduceMul, Int.reduceNeg, reduceCtorEq, Option.bind_some, Option.map_some, List.length_cons, List.length_nil, vcM, List.getElem?_toArray, List.getElem?_cons_zero, List.getElem?_cons_succ])
      (refine W_at c25_ok ?_; refine ⟨_, rfl, ?_⟩; simp (disch := first | omega | assumption | rfl | (simp only [vcS] <;> omega) | fail) only [↓ptV_l, ↓vcA, vcB, ↓vcD, vcE, ↓reduceIte, Nat.reduceEqDiff, Nat.reduceAdd, Nat.reduceMul, Nat.reduceLeDiff, Int.reduceLE, Int.reduceLT, Int.reduceEq, Int.reduceToNat, Int.reduceAdd, Int.reduceSub, Int.reduceMul, Int.reduceNeg, reduceCtorEq, Option.bind_some, Option.map_some, List.length_cons, List.length_nil, vcM, List.getElem?_toArray, List.getElem?_cons_zero, List.getElem?_cons_succ, hat, hsz, ext_all, hj2, Int.toNat_natCast, hg, hext])
      have hb1' := hb1.drew
      refine callV_ret (find_ok w1.drew c v1 ws1 k hl1 hb1'.row hk) ?_
      rintro _ w2 ⟨rfl, hE2⟩
      have hb2 := hb1'.mono hE2
      have hg2 : w2.heap[g]? = _ := hE2.at (show w1.drew.heap[g]? = _ from hg) fun h => h
      cases hq : idxW k ws1 with
      | none =>
        have hi := idxI_none hq
        (refine W_at c25_ok ?_; refine ⟨_, rfl, ?_⟩; simp (disch := first | omega | assumption | rfl | (simp only [vcS] <;> omega) | fail) only [↓ptV_l, ↓vcA, vcB, ↓vcD, vcE, ↓reduceIte, Nat.reduceEqDiff, Nat.reduceAdd, Nat.reduceMul, Nat.reduceLeDiff, Int.reduceLE, Int.reduceLT, Int.reduceEq, Int.reduceToNat, Int.reduceAdd, Int.reduceSub, Int.reduceMul, Int.reduceNeg, reduceCtorEq, Option.bind_some, Option.map_some, List.length_cons, List.length_nil, vcM, List.getElem?_toArray, List.getElem?_cons_zero, List.getElem?_cons_succ, hi])
        (refine W_at c25_ok ?_; refine ⟨_, rfl, ?_⟩; simp (disch := first | omega | assumption | rfl | (simp only [vcS] <;> omega) | fail) only [↓ptV_l, ↓vcA, vcB, ↓vcD, vcE, ↓reduceIte, Nat.reduceEqDiff, Nat.reduceAdd, Nat.reduceMul, Nat.reduceLeDiff, Int.reduceLE, Int.reduceLT, Int.reduceEq, Int.reduceToNat, Int.reduceAdd, Int.reduceSub, Int.reduceMul, Int.reduceNeg, reduceCtorEq, Option.bind_some, Option.map_some, List.length_cons, List.length_nil, vcM, List.getElem?_toArray, List.getElem?_cons_zero, List.getElem?_cons_succ])
        (refine W_at c25_ok ?_; refine ⟨_, rfl, ?_⟩; simp (disch := first | omega | assumption | rfl | (simp only [vcS] <;> omega) | fail) only [↓ptV_l, ↓vcA, vcB, ↓vcD, vcE, ↓reduceIte, Nat.reduceEqDiff, Nat.reduceAdd, Nat.reduceMul, Nat.reduceLeDiff, Int.reduceLE, Int.reduceLT, Int.reduceEq, Int.reduceToNat, Int.reduceAdd, Int.reduceSub, Int.reduceMul, Int.reduceNeg, reduceCtorEq, Option.bind_some, Option.map_some, List.length_cons, List.length_nil, vcM, List.getElem?_toArray, List.getElem?_cons_zero, List.getElem?_cons_succ, hwj])
        (refine W_at c25_ok ?_; refine ⟨_, rfl, ?_⟩; simp (disch := first | omega | assumption | rfl | (simp only [vcS] <;> omega) | fail) only [↓ptV_l, ↓vcA, vcB, ↓vcD, vcE, ↓reduceIte, Nat.reduceEqDiff, Nat.reduceAdd, Nat.reduceMul, Nat.reduceLeDiff, Int.reduceLE, Int.reduceLT, Int.reduceEq, Int.reduceToNat, Int.reduceAdd, Int.reduceSub, Int.reduceMul, Int.reduceNeg, reduceCtorEq, Option.bind_some, Option.map_some, List.length_cons, List.length_nil, vcM, List.getElem?_toArray, List.getElem?_cons_zero, List.getElem?_cons_succ])
        refine ih (j + 1) w2 c v1 ws1 (by omega) hb2 hB1 hn1 ?_
        rw [← he]; simp only [rhits, hq, Option.bind_none]
      | some i =>
        have hi := idxI_some hq
        have hi2 : ¬ ((i : Int) < 0) := by omega
        obtain ⟨e, hei, hek⟩ := idxW_lt hq
        have hil : i < ws1.length := (List.getElem?_eq_some_iff.1 hei).1
        have hie : ws1[i] = e := (List.getElem?_eq_some_iff.1 hei).2
        have hilm : i < (ws1.map wcell).length := by rw [List.length_map]; exact hil
        have hi3 : 0 ≤ (i : Int) ∧ (i : Int) < (((ws1.map wcell).length : Nat) : Int) := by omega
        obtain ⟨g2, cap2, cur2, rfl, hgw, hle2, hext2, _, _⟩ := own_at hb2.row.1 (fun c hc => by obtain ⟨e, he, rfl⟩ := List.mem_map.1 hc; exact wcell_size (hb2.row.2 e he)) hilm
        have hke := hb2.row.2 e (hie ▸ List.getElem_mem hil)
        rw [List.getElem_map, hie] at hext2
        have hwsz := wcell_size hke
        have hwf := wcell_flat hke
        have h1 : (refC c (.slice (some ⟨g2, 0, none⟩) (ws1.map wcell).length cap2))[312]? = some _ := refC_sl hl1.symm
        have hat2 := hb2.at'
        (refine W_at c25_ok ?_; refine ⟨_, rfl, ?_⟩; simp (disch := first | omega | assumption | rfl | (simp only [vcS] <;> omega) | fail) only [↓ptV_l, ↓vcA, vcB, ↓vcD, vcE, ↓reduceIte, Nat.reduceEqDiff, Nat.reduceAdd, Nat.reduceMul, Nat.reduceLeDiff, Int.reduceLE, Int.reduceLT, Int.reduceEq, Int.reduceToNat, Int.reduceAdd, Int.reduceSub, Int.reduceMul, Int.reduceNeg, reduceCtorEq, Option.bind_some, Option.map_some, List.length_cons, List.length_nil, vcM, List.getElem?_toArray, List.getElem?_cons_zero, List.getElem?_cons_succ, hi, hi2])
        (refine W_at c25_ok ?_; refine ⟨_, rfl, ?_⟩; simp (disch := first | omega | assumption | rfl | (simp only [vcS] <;> omega) | fail) only [↓ptV_l, ↓vcA, vcB, ↓vcD, vcE, ↓reduceIte, Nat.reduceEqDiff, Nat.reduceAdd, Nat.reduceMul, Nat.reduceLeDiff, Int.reduceLE, Int.reduceLT, Int.reduceEq, Int.reduceToNat, Int.reduceAdd, Int.reduceSub, Int.reduceMul, Int.reduceNeg, reduceCtorEq, Option.bind_some, Option.map_some, List.length_cons, List.length_nil, vcM, List.getElem?_toArray, List.getElem?_cons_zero, List.getElem?_cons_succ])
        (refine W_at c25_ok ?_; refine ⟨_, rfl, ?_⟩; simp (disch := first | omega | assumption | rfl | (simp only [vcS] <;> omega) | fail) only [↓ptV_l, ↓vcA, vcB, ↓vcD, vcE, ↓reduceIte, Nat.reduceEqDiff, Nat.reduceAdd, Nat.reduceMul, Nat.reduceLeDiff, Int.reduceLE, Int.reduceLT, Int.reduceEq, Int.reduceToNat, Int.reduceAdd, Int.reduceSub, Int.reduceMul, Int.reduceNeg, reduceCtorEq, Option.bind_some, Option.map_some, List.length_cons, List.length_nil, vcM, List.getElem?_toArray, List.getElem?_cons_zero, List.getElem?_cons_succ, hi, hi3, hat2, h1, Int.toNat_natCast, hgw, hext2, hwsz, hwf])
        have hp3 := heap_local w2 (c0 := zc [(32, Value.int IntKind.u8 0), (2, Value.int IntKind.i64 0)]) (t := 49) (k := wcell e) (by rw [size_zc2, hwsz])
        have hE3 : Ext w2 ((w2.alloc (Obj.cells (zc [(32, Value.int IntKind.u8 0), (2, Value.int IntKind.i64 0)]) 49)).putN w2.heap.size 0 (wcell e)) := by (repeat' first | exact Keep.refl _ _ | assumption | refine Keep.drew ?_ | refine Keep.alloc ?_ _ | refine Keep.putN ?_ _ ?_ | refine Keep.setCell ?_ _ ?_ | refine Keep.setO ?_ _ ?_ | exact fun _ => Or.inl rfl | exact fun _ => Or.inr rfl | exact fun _ => rfl | (intro hh; exfalso; ((try simp only [vcS] at hh) <;> omega)))
        generalize World.putN _ _ _ _ = w3 at hp3 hE3 ⊢
        have hb3 := hb2.mono hE3
        have hg3 := hE3.at hg2 fun h => h
        have hb3' := hb3.drew
        have hpf : p ≠ w2.heap.size := by have := lt_of_heap hat2; omega
        have hat3 : w3.heap[p]? = _ := hb3.at'
        have hsz3 : (refC c (.slice (some ⟨g2, 0, none⟩) (ws1.map wcell).length cap2)).size = 313 := by rw [size_refC, hl1]
        have hc32 : (wcell e)[32]? = some (.int .i64 e.2.1) := by
          have := HK_size hke
          simp [wcell, Array.getElem?_append, this]
        have hc33 : (wcell e)[33]? = some (.int .i64 e.2.2) := by
          have := HK_size hke
          simp [wcell, Array.getElem?_append, this]
        (refine W_at c25_ok ?_; refine ⟨_, rfl, ?_⟩; simp (disch := first | omega | assumption | rfl | (simp only [vcS] <;> omega) | fail) only [↓ptV_l, ↓vcA, vcB, ↓vcD, vcE, ↓reduceIte, Nat.reduceEqDiff, Nat.reduceAdd, Nat.reduceMul, Nat.reduceLeDiff, Int.reduceLE, Int.reduceLT, Int.reduceEq, Int.reduceToNat, Int.reduceAdd, Int.reduceSub, Int.reduceMul, Int.reduceNeg, reduceCtorEq, Option.bind_some, Option.map_some, List.length_cons, List.length_nil, vcM, List.getElem?_toArray, List.getElem?_cons_zero, List.getElem?_cons_succ, hat3, hsz3, ext_all, hj2, Int.toNat_natCast, hg3, hext])
        refine callV_ret (rforget_ok w3.drew c _ ws1 k hl1 hb3'.row hk hn1) ?_
        rintro _ w4 ⟨v4, rfl, hr4, hE4⟩
        have hb4 := hb3'.mono hE4
        have hp4 := hE4.at (show w3.drew.heap[w2.heap.size]? = _ from hp3) fun h => h
        have hat4 := hb4.at'
        have hsz4 : (refC c v4).size = 313 := by rw [size_refC, hl1]
        have hf4 := refC_flat (rc := c) (one_row hr4.1)
        simp (disch := first | omega | assumption | rfl | (simp only [vcS] <;> omega) | fail) only [↓ptV_l, ↓vcA, vcB, ↓vcD, vcE, ↓reduceIte, Nat.reduceEqDiff, Nat.reduceAdd, Nat.reduceMul, Nat.reduceLeDiff, Int.reduceLE, Int.reduceLT, Int.reduceEq, Int.reduceToNat, Int.reduceAdd, Int.reduceSub, Int.reduceMul, Int.reduceNeg, reduceCtorEq, Option.bind_some, Option.map_some, List.length_cons, List.length_nil, vcM, List.getElem?_toArray, List.getElem?_cons_zero, List.getElem?_cons_succ, hat4, hsz4, hsz3]
        refine ⟨hf4, ?_⟩
        have hp5 : (w4.putN p 0 (refC c v4)).heap[w2.heap.size]? = some (.cells (wcell e) 49 (0, 0)) := by
          rw [heap_putN_ne _ _ _ _ _ (Ne.symm hpf)]; exact hp4
        have hb5 := hb4.put hr4
        generalize World.putN w4 _ _ _ = w5 at hb5 hp5 ⊢
        have hB4 := BOK_del (k := k) hB1
        have hbk : 0 ≤ e.2.1 ∧ e.2.1 < 24 := hB1 e (List.mem_of_getElem? hei)
        obtain ⟨bk', hbk'⟩ : ∃ n : Nat, e.2.1 = n := ⟨e.2.1.toNat, by omega⟩
        have hto : e.2.1.toNat = bk' := by omega
        have hb24 : bk' < 24 := by omega
        have hfin : ∀ w6, RB w w6 p q (rhitC h e c) v4 (delW k ws1) (.slice (some ⟨g, 0, none⟩) ids.length cap) ids → W Try.prog (Ret fun u w' => RefIs w w' u (rhits h ids rc ws).1 (rhits h ids rc ws).2) 25 21
            [(1, .int .i64 h), (2, .slice (some ⟨g, 0, none⟩) ids.length cap), (3, .pointer (some ⟨p, 0, none⟩)), (6, .pointer (some ⟨q, 0, none⟩)), (9, .int .i64 ((j + 1 : Nat) : Int))] w6 := by
          intro w6 hb6
          refine ih (j + 1) w6 _ v4 _ (by omega) hb6 hB4 (Nat.le_trans (delW_len k ws1) hn1) ?_
          rw [← he]; simp only [rhits, hq, Option.bind_some, hei]
        unfold rhitC at hfin
        rw [hto] at hfin
        have hb5' := hb5.drew
        have hat5 : w5.heap[p]? = _ := hb5.at'
        have hwr := hb5'.wr (i := bk') (by omega)
        have h0 : (refC c v4)[bk']? = some (.int .i64 (c.getD bk' 0)) := refC_int (by omega)
        have hb6 := hb5'.set (i := bk') (by omega) (IntKind.i64.wrap (c.getD bk' 0 + 1000))
        have hp6 : (w5.drew.setCell ⟨p, bk', none⟩ (.int .i64 (IntKind.i64.wrap (c.getD bk' 0 + 1000)))).heap[w2.heap.size]? = some (.cells (wcell e) 49 (0, 0)) := by
          rw [heap_setCell_ne _ _ _ _ _ _ (Ne.symm hpf)]; exact hp5
        (refine W_at c25_ok ?_; refine ⟨_, rfl, ?_⟩; simp (disch := first | omega | assumption | rfl | (simp only [vcS] <;> omega) | fail) only [↓ptV_l, ↓vcA, vcB, ↓vcD, vcE, ↓reduceIte, Nat.reduceEqDiff, Nat.reduceAdd, Nat.reduceMul, Nat.reduceLeDiff, Int.reduceLE, Int.reduceLT, Int.reduceEq, Int.reduceToNat, Int.reduceAdd, Int.reduceSub, Int.reduceMul, Int.reduceNeg, reduceCtorEq, Option.bind_some, Option.map_some, List.length_cons, List.length_nil, vcM, List.getElem?_toArray, List.getElem?_cons_zero, List.getElem?_cons_succ, hp5, hc32, hbk, hto, Nat.mul_one, hat5, h0])
        refine ⟨hwr, ?_⟩
        generalize World.setCell w5.drew _ _ = w6 at hb6 hp6 ⊢
        generalize List.set c _ _ = c6 at hb6 hfin
        (refine W_at c25_ok ?_; refine ⟨_, rfl, ?_⟩; simp (disch := first | omega | assumption | rfl | (simp only [vcS] <;> omega) | fail) only [↓ptV_l, ↓vcA, vcB, ↓vcD, vcE, ↓reduceIte, Nat.reduceEqDiff, Nat.reduceAdd, Nat.reduceMul, Nat.reduceLeDiff, Int.reduceLE, Int.reduceLT, Int.reduceEq, Int.reduceToNat, Int.reduceAdd, Int.reduceSub, Int.reduceMul, Int.reduceNeg, reduceCtorEq, Option.bind_some, Option.map_some, List.length_cons, List.length_nil, vcM, List.getElem?_toArray, List.getElem?_cons_zero, List.getElem?_cons_succ])
        have I : ∀ (n' t : Nat) (w7 : World), n' + t = 12 → RB w w7 p q (hitT (23 + bk' * 12) (waitedF h e.2.2) t c6) v4 (delW k ws1) (.slice (some ⟨g, 0, none⟩) ids.length cap) ids → w7.heap[w2.heap.size]? = some (.cells (wcell e) 49 (0, 0)) →
            W Try.prog (Ret fun u w' => RefIs w w' u (rhits h ids rc ws).1 (rhits h ids rc ws).2) 25 12
              [(1, .int .i64 h), (2, .slice (some ⟨g, 0, none⟩) ids.length cap), (3, .pointer (some ⟨p, 0, none⟩)), (6, .pointer (some ⟨q, 0, none⟩)), (9, .int .i64 j), (11, .pointer (some ⟨w2.heap.size, 0, none⟩)), (12, .int .i64 ((t : Int) + 1))] w7 := by
          intro n'
          induction n' with
          | zero =>
            intro t w7 ht hb7 hp7
            have ht12 : t = 12 := by omega
            subst ht12
            (refine W_at c25_ok ?_; refine ⟨_, rfl, ?_⟩; simp (disch := first | omega | assumption | rfl | (simp only [vcS] <;> omega) | fail) only [↓ptV_l, ↓vcA, vcB, ↓vcD, vcE, ↓reduceIte, Nat.reduceEqDiff, Nat.reduceAdd, Nat.reduceMul, Nat.reduceLeDiff, Int.reduceLE, Int.reduceLT, Int.reduceEq, Int.reduceToNat, Int.reduceAdd, Int.reduceSub, Int.reduceMul, Int.reduceNeg, reduceCtorEq, Option.bind_some, Option.map_some, List.length_cons, List.length_nil, vcM, List.getElem?_toArray, List.getElem?_cons_zero, List.getElem?_cons_succ])
            (refine W_at c25_ok ?_; refine ⟨_, rfl, ?_⟩; simp (disch := first | omega | assumption | rfl | (simp only [vcS] <;> omega) | fail) only [↓ptV_l, ↓vcA, vcB, ↓vcD, vcE, ↓reduceIte, Nat.reduceEqDiff, Nat.reduceAdd, Nat.reduceMul, Nat.reduceLeDiff, Int.reduceLE, Int.reduceLT, Int.reduceEq, Int.reduceToNat, Int.reduceAdd, Int.reduceSub, Int.reduceMul, Int.reduceNeg, reduceCtorEq, Option.bind_some, Option.map_some, List.length_cons, List.length_nil, vcM, List.getElem?_toArray, List.getElem?_cons_zero, List.getElem?_cons_succ])
            (refine W_at c25_ok ?_; refine ⟨_, rfl, ?_⟩; simp (disch := first | omega | assumption | rfl | (simp only [vcS] <;> omega) | fail) only [↓ptV_l, ↓vcA, vcB, ↓vcD, vcE, ↓reduceIte, Nat.reduceEqDiff, Nat.reduceAdd, Nat.reduceMul, Nat.reduceLeDiff, Int.reduceLE, Int.reduceLT, Int.reduceEq, Int.reduceToNat, Int.reduceAdd, Int.reduceSub, Int.reduceMul, Int.reduceNeg, reduceCtorEq, Option.bind_some, Option.map_some, List.length_cons, List.length_nil, vcM, List.getElem?_toArray, List.getElem?_cons_zero, List.getElem?_cons_succ, hwj])
            (refine W_at c25_ok ?_; refine ⟨_, rfl, ?_⟩; simp (disch := first | omega | assumption | rfl | (simp only [vcS] <;> omega) | fail) only [↓ptV_l, ↓vcA, vcB, ↓vcD, vcE, ↓reduceIte, Nat.reduceEqDiff, Nat.reduceAdd, Nat.reduceMul, Nat.reduceLeDiff, Int.reduceLE, Int.reduceLT, Int.reduceEq, Int.reduceToNat, Int.reduceAdd, Int.reduceSub, Int.reduceMul, Int.reduceNeg, reduceCtorEq, Option.bind_some, Option.map_some, List.length_cons, List.length_nil, vcM, List.getElem?_toArray, List.getElem?_cons_zero, List.getElem?_cons_succ])
            exact hfin w7 hb7
          | succ n' ih' =>
            intro t w7 ht hb7 hp7
            have ht' : (t : Int) + 1 ≤ 12 := by omega
            have hwt : IntKind.i64.wrap ((t : Int) + 1 + 1) = ((t + 1 : Nat) : Int) + 1 := wrap_i64 (by omega) (by omega)
            have hwu : IntKind.u64.wrap ((t : Int) + 1) = (t : Int) + 1 := by rw [wrap_u64]; omega
            have hws : IntKind.i64.wrap ((t : Int) + 1 - 1) = (t : Int) := by rw [wrap_i64 (by omega) (by omega)]; omega
            have ht2 : 0 ≤ (t : Int) ∧ (t : Int) < 12 := by omega
            have hsoon : ∀ d : Bool, (waitedF h e.2.2 ≤ (t : Int) + 1 ↔ d = true) → W Try.prog (Ret fun u w' => RefIs w w' u (rhits h ids rc ws).1 (rhits h ids rc ws).2) 25 9
              [(1, .int .i64 h), (2, .slice (some ⟨g, 0, none⟩) ids.length cap), (3, .pointer (some ⟨p, 0, none⟩)), (6, .pointer (some ⟨q, 0, none⟩)), (9, .int .i64 j), (11, .pointer (some ⟨w2.heap.size, 0, none⟩)), (12, .int .i64 ((t : Int) + 1)), (13, .bool d)] w7 := by
              intro d hd
              cases d with
              | true =>
                have hwd := hd.2 rfl
                have hb8 := hb7.drew
                have hat8 : w7.heap[p]? = _ := hb7.at'
                have hl8 := hb7.len
                have h8 : (refC (hitT (23 + bk' * 12) (waitedF h e.2.2) t c6) v4)[24 + bk' * 12 + t]? = some (.int .i64 ((hitT (23 + bk' * 12) (waitedF h e.2.2) t c6).getD (24 + bk' * 12 + t) 0)) := refC_int (by omega)
                have hwr8 := hb8.wr (i := 24 + bk' * 12 + t) (by omega)
                have hb9 := hb8.set (i := 24 + bk' * 12 + t) (by omega) (IntKind.i64.wrap ((hitT (23 + bk' * 12) (waitedF h e.2.2) t c6).getD (24 + bk' * 12 + t) 0 + 1000))
                have e8 : 23 + bk' * 12 + 1 + t = 24 + bk' * 12 + t := by omega
                have e9 : hitT (23 + bk' * 12) (waitedF h e.2.2) (t + 1) c6 = (hitT (23 + bk' * 12) (waitedF h e.2.2) t c6).set (24 + bk' * 12 + t) (IntKind.i64.wrap ((hitT (23 + bk' * 12) (waitedF h e.2.2) t c6).getD (24 + bk' * 12 + t) 0 + 1000)) := by simp only [hitT, if_pos hwd, e8]
                rw [← e9] at hb9
                have hp9 : (w7.drew.setCell ⟨p, 24 + bk' * 12 + t, none⟩ (.int .i64 (IntKind.i64.wrap ((hitT (23 + bk' * 12) (waitedF h e.2.2) t c6).getD (24 + bk' * 12 + t) 0 + 1000)))).heap[w2.heap.size]? = some (.cells (wcell e) 49 (0, 0)) := by
                  rw [heap_setCell_ne _ _ _ _ _ _ (Ne.symm hpf)]; exact hp7
                (refine W_at c25_ok ?_; refine ⟨_, rfl, ?_⟩; simp (disch := first | omega | assumption | rfl | (simp only [vcS] <;> omega) | fail) only [↓ptV_l, ↓vcA, vcB, ↓vcD, vcE, ↓reduceIte, Nat.reduceEqDiff, Nat.reduceAdd, Nat.reduceMul, Nat.reduceLeDiff, Int.reduceLE, Int.reduceLT, Int.reduceEq, Int.reduceToNat, Int.reduceAdd, Int.reduceSub, Int.reduceMul, Int.reduceNeg, reduceCtorEq, Option.bind_some, Option.map_some, List.length_cons, List.length_nil, vcM, List.getElem?_toArray, List.getElem?_cons_zero, List.getElem?_cons_succ])
                (refine W_at c25_ok ?_; refine ⟨_, rfl, ?_⟩; simp (disch := first | omega | assumption | rfl | (simp only [vcS] <;> omega) | fail) only [↓ptV_l, ↓vcA, vcB, ↓vcD, vcE, ↓reduceIte, Nat.reduceEqDiff, Nat.reduceAdd, Nat.reduceMul, Nat.reduceLeDiff, Int.reduceLE, Int.reduceLT, Int.reduceEq, Int.reduceToNat, Int.reduceAdd, Int.reduceSub, Int.reduceMul, Int.reduceNeg, reduceCtorEq, Option.bind_some, Option.map_some, List.length_cons, List.length_nil, vcM, List.getElem?_toArray, List.getElem?_cons_zero, List.getElem?_cons_succ])
                (refine W_at c25_ok ?_; refine ⟨_, rfl, ?_⟩; simp (disch := first | omega | assumption | rfl | (simp only [vcS] <;> omega) | fail) only [↓ptV_l, ↓vcA, vcB, ↓vcD, vcE, ↓reduceIte, Nat.reduceEqDiff, Nat.reduceAdd, Nat.reduceMul, Nat.reduceLeDiff, Int.reduceLE, Int.reduceLT, Int.reduceEq, Int.reduceToNat, Int.reduceAdd, Int.reduceSub, Int.reduceMul, Int.reduceNeg, reduceCtorEq, Option.bind_some, Option.map_some, List.length_cons, List.length_nil, vcM, List.getElem?_toArray, List.getElem?_cons_zero, List.getElem?_cons_succ, hp7, hc32, hbk, hto, ht2, hws, Int.toNat_natCast, Nat.mul_one, hat8, h8])
                refine ⟨hwr8, ?_⟩
                generalize World.setCell w7.drew _ _ = w9 at hb9 hp9 ⊢
                (refine W_at c25_ok ?_; refine ⟨_, rfl, ?_⟩; simp (disch := first | omega | assumption | rfl | (simp only [vcS] <;> omega) | fail) only [↓ptV_l, ↓vcA, vcB, ↓vcD, vcE, ↓reduceIte, Nat.reduceEqDiff, Nat.reduceAdd, Nat.reduceMul, Nat.reduceLeDiff, Int.reduceLE, Int.reduceLT, Int.reduceEq, Int.reduceToNat, Int.reduceAdd, Int.reduceSub, Int.reduceMul, Int.reduceNeg, reduceCtorEq, Option.bind_some, Option.map_some, List.length_cons, List.length_nil, vcM, List.getElem?_toArray, List.getElem?_cons_zero, List.getElem?_cons_succ, hwt])
                (refine W_at c25_ok ?_; refine ⟨_, rfl, ?_⟩; simp (disch := first | omega | assumption | rfl | (simp only [vcS] <;> omega) | fail) only [↓ptV_l, ↓vcA, vcB, ↓vcD, vcE, ↓reduceIte, Nat.reduceEqDiff, Nat.reduceAdd, Nat.reduceMul, Nat.reduceLeDiff, Int.reduceLE, Int.reduceLT, Int.reduceEq, Int.reduceToNat, Int.reduceAdd, Int.reduceSub, Int.reduceMul, Int.reduceNeg, reduceCtorEq, Option.bind_some, Option.map_some, List.length_cons, List.length_nil, vcM, List.getElem?_toArray, List.getElem?_cons_zero, List.getElem?_cons_succ])
                exact ih' (t + 1) w9 (by omega) hb9 hp9
              | false =>
                have hwd : ¬ waitedF h e.2.2 ≤ (t : Int) + 1 := fun h => by have := hd.1 h; cases this
                (refine W_at c25_ok ?_; refine ⟨_, rfl, ?_⟩; simp (disch := first | omega | assumption | rfl | (simp only [vcS] <;> omega) | fail) only [↓ptV_l, ↓vcA, vcB, ↓vcD, vcE, ↓reduceIte, Nat.reduceEqDiff, Nat.reduceAdd, Nat.reduceMul, Nat.reduceLeDiff, Int.reduceLE, Int.reduceLT, Int.reduceEq, Int.reduceToNat, Int.reduceAdd, Int.reduceSub, Int.reduceMul, Int.reduceNeg, reduceCtorEq, Option.bind_some, Option.map_some, List.length_cons, List.length_nil, vcM, List.getElem?_toArray, List.getElem?_cons_zero, List.getElem?_cons_succ])
                (refine W_at c25_ok ?_; refine ⟨_, rfl, ?_⟩; simp (disch := first | omega | assumption | rfl | (simp only [vcS] <;> omega) | fail) only [↓ptV_l, ↓vcA, vcB, ↓vcD, vcE, ↓reduceIte, Nat.reduceEqDiff, Nat.reduceAdd, Nat.reduceMul, Nat.reduceLeDiff, Int.reduceLE, Int.reduceLT, Int.reduceEq, Int.reduceToNat, Int.reduceAdd, Int.reduceSub, Int.reduceMul, Int.reduceNeg, reduceCtorEq, Option.bind_some, Option.map_some, List.length_cons, List.length_nil, vcM, List.getElem?_toArray, List.getElem?_cons_zero, List.getElem?_cons_succ])
                (refine W_at c25_ok ?_; refine ⟨_, rfl, ?_⟩; simp (disch := first | omega | assumption | rfl | (simp only [vcS] <;> omega) | fail) only [↓ptV_l, ↓vcA, vcB, ↓vcD, vcE, ↓reduceIte, Nat.reduceEqDiff, Nat.reduceAdd, Nat.reduceMul, Nat.reduceLeDiff, Int.reduceLE, Int.reduceLT, Int.reduceEq, Int.reduceToNat, Int.reduceAdd, Int.reduceSub, Int.reduceMul, Int.reduceNeg, reduceCtorEq, Option.bind_some, Option.map_some, List.length_cons, List.length_nil, vcM, List.getElem?_toArray, List.getElem?_cons_zero, List.getElem?_cons_succ, hwt])
                (refine W_at c25_ok ?_; refine ⟨_, rfl, ?_⟩; simp (disch := first | omega | assumption | rfl | (simp only [vcS] <;> omega) | fail) only [↓ptV_l, ↓vcA, vcB, ↓vcD, vcE, ↓reduceIte, Nat.reduceEqDiff, Nat.reduceAdd, Nat.reduceMul, Nat.reduceLeDiff, Int.reduceLE, Int.reduceLT, Int.reduceEq, Int.reduceToNat, Int.reduceAdd, Int.reduceSub, Int.reduceMul, Int.reduceNeg, reduceCtorEq, Option.bind_some, Option.map_some, List.length_cons, List.length_nil, vcM, List.getElem?_toArray, List.getElem?_cons_zero, List.getElem?_cons_succ])
                refine ih' (t + 1) w7 (by omega) ?_ hp7
                have e9 : hitT (23 + bk' * 12) (waitedF h e.2.2) (t + 1) c6 = hitT (23 + bk' * 12) (waitedF h e.2.2) t c6 := by simp only [hitT, if_neg hwd]
                rw [e9]; exact hb7
            (refine W_at c25_ok ?_; refine ⟨_, rfl, ?_⟩; simp (disch := first | omega | assumption | rfl | (simp only [vcS] <;> omega) | fail) only [↓ptV_l, ↓vcA, vcB, ↓vcD, vcE, ↓reduceIte, Nat.reduceEqDiff, Nat.reduceAdd, Nat.reduceMul, Nat.reduceLeDiff, Int.reduceLE, Int.reduceLT, Int.reduceEq, Int.reduceToNat, Int.reduceAdd, Int.reduceSub, Int.reduceMul, Int.reduceNeg, reduceCtorEq, Option.bind_some, Option.map_some, List.length_cons, List.length_nil, vcM, List.getElem?_toArray, List.getElem?_cons_zero, List.getElem?_cons_succ, ht'])
            (refine W_at c25_ok ?_; refine ⟨_, rfl, ?_⟩; simp (disch := first | omega | assumption | rfl | (simp only [vcS] <;> omega) | fail) only [↓ptV_l, ↓vcA, vcB, ↓vcD, vcE, ↓reduceIte, Nat.reduceEqDiff, Nat.reduceAdd, Nat.reduceMul, Nat.reduceLeDiff, Int.reduceLE, Int.reduceLT, Int.reduceEq, Int.reduceToNat, Int.reduceAdd, Int.reduceSub, Int.reduceMul, Int.reduceNeg, reduceCtorEq, Option.bind_some, Option.map_some, List.length_cons, List.length_nil, vcM, List.getElem?_toArray, List.getElem?_cons_zero, List.getElem?_cons_succ])
            by_cases hle : h ≤ e.2.2
            · (refine W_at c25_ok ?_; refine ⟨_, rfl, ?_⟩; simp (disch := first | omega | assumption | rfl | (simp only [vcS] <;> omega) | fail) only [↓ptV_l, ↓vcA, vcB, ↓vcD, vcE, ↓reduceIte, Nat.reduceEqDiff, Nat.reduceAdd, Nat.reduceMul, Nat.reduceLeDiff, Int.reduceLE, Int.reduceLT, Int.reduceEq, Int.reduceToNat, Int.reduceAdd, Int.reduceSub, Int.reduceMul, Int.reduceNeg, reduceCtorEq, Option.bind_some, Option.map_some, List.length_cons, List.length_nil, vcM, List.getElem?_toArray, List.getElem?_cons_zero, List.getElem?_cons_succ, hp7, hc33, hle])
              refine hsoon true ?_
              simp only [waitedF, if_neg (by omega : ¬ e.2.2 < h)]; exact ⟨fun _ => trivial, fun _ => by omega⟩
            · have hwe : waitedF h e.2.2 = IntKind.u64.wrap (IntKind.u64.wrap h - IntKind.u64.wrap e.2.2) := by simp only [waitedF, if_pos (by omega : e.2.2 < h)]
              (refine W_at c25_ok ?_; refine ⟨_, rfl, ?_⟩; simp (disch := first | omega | assumption | rfl | (simp only [vcS] <;> omega) | fail) only [↓ptV_l, ↓vcA, vcB, ↓vcD, vcE, ↓reduceIte, Nat.reduceEqDiff, Nat.reduceAdd, Nat.reduceMul, Nat.reduceLeDiff, Int.reduceLE, Int.reduceLT, Int.reduceEq, Int.reduceToNat, Int.reduceAdd, Int.reduceSub, Int.reduceMul, Int.reduceNeg, reduceCtorEq, Option.bind_some, Option.map_some, List.length_cons, List.length_nil, vcM, List.getElem?_toArray, List.getElem?_cons_zero, List.getElem?_cons_succ, hp7, hc33, hle, hwu])
              rw [← hwe]
              exact hsoon _ (by simp)
        exact I 12 0 w6 rfl hb6 hp6
  (refine W_at c25_ok ?_; refine ⟨_, rfl, ?_⟩; simp (disch := first | omega | assumption | rfl | (simp only [vcS] <;> omega) | fail) only [↓ptV_l, ↓vcA, vcB, ↓vcD, vcE, ↓reduceIte, Nat.reduceEqDiff, Nat.reduceAdd, Nat.reduceMul, Nat.reduceLeDiff, Int.reduceLE, Int.reduceLT, Int.reduceEq, Int.reduceToNat, Int.reduceAdd, Int.reduceSub, Int.reduceMul, Int.reduceNeg, reduceCtorEq, Option.bind_some, Option.map_some, List.length_cons, List.length_nil, vcM, List.getElem?_toArray, List.getElem?_cons_zero, List.getElem?_cons_succ])
  exact H ids.length 0 w0 rc v ws rfl hb hB hn rfl

theorem rblock_ok (w : World) (rc : List Int) (v : Value) (ws : List WE) (h : Int) (vi : Value) (ids : List (Array Value)) (hl : rc.length = 312) (hr : WRow w v ws) (hI : IdsAt 47 w vi ids) (hB : BOK ws) (hn : ws.length ≤ 1000000) :
    Calls Try.prog 25 #[.agg (refC rc v), .int .i64 h, vi] w (Ret fun u w' => RefIs w w' u (rhits h ids (rc.map fadeF) ws).1 (rhits h ids (rc.map fadeF) ws).2) := by
  refine calls_of_cfg c25_ok (Nat.le_of_ble_eq_true rfl) ?_
  simp only [argE_nil, argE_cons, Nat.reduceAdd, Nat.zero_add]
  have hsz : (refC rc v).size = 313 := by rw [size_refC, hl]
  have hrf := refC_flat (rc := rc) (one_row hr.1)
  (refine W_at c25_ok ?_; refine ⟨_, rfl, ?_⟩; simp (disch := first | omega | assumption | rfl | (simp only [vcS] <;> omega) | fail) only [↓ptV_l, ↓vcA, vcB, ↓vcD, vcE, ↓reduceIte, Nat.reduceEqDiff, Nat.reduceAdd, Nat.reduceMul, Nat.reduceLeDiff, Int.reduceLE, Int.reduceLT, Int.reduceEq, Int.reduceToNat, Int.reduceAdd, Int.reduceSub, Int.reduceMul, Int.reduceNeg, reduceCtorEq, Option.bind_some, Option.map_some, List.length_cons, List.length_nil, vcM, List.getElem?_toArray, List.getElem?_cons_zero, List.getElem?_cons_succ, hsz, hrf])
  have hp2 : ((w.alloc (Obj.cells (refC rc v) 31)).alloc (Obj.cells (zc [(312, Value.int IntKind.i64 0), (1, Value.slice none 0 0)]) 31)).heap[w.heap.size]? = some (.cells (refC rc v) 31 (0, 0)) := by simp (disch := first | omega | assumption | rfl | (simp only [vcS] <;> omega) | fail) only [↓ptV_l, ↓vcA, vcB, ↓vcD, vcE, ↓reduceIte, Nat.reduceEqDiff, Nat.reduceAdd, Nat.reduceMul, Nat.reduceLeDiff, Int.reduceLE, Int.reduceLT, Int.reduceEq, Int.reduceToNat, Int.reduceAdd, Int.reduceSub, Int.reduceMul, Int.reduceNeg, reduceCtorEq, Option.bind_some, Option.map_some, List.length_cons, List.length_nil, vcM, List.getElem?_toArray, List.getElem?_cons_zero, List.getElem?_cons_succ]
  have hp3 : ((w.alloc (Obj.cells (refC rc v) 31)).alloc (Obj.cells (zc [(312, Value.int IntKind.i64 0), (1, Value.slice none 0 0)]) 31)).heap[w.heap.size + 1]? = some (.cells (zc [(312, Value.int IntKind.i64 0), (1, Value.slice none 0 0)]) 31 (0, 0)) := by simp (disch := first | omega | assumption | rfl | (simp only [vcS] <;> omega) | fail) only [↓ptV_l, ↓vcA, vcB, ↓vcD, vcE, ↓reduceIte, Nat.reduceEqDiff, Nat.reduceAdd, Nat.reduceMul, Nat.reduceLeDiff, Int.reduceLE, Int.reduceLT, Int.reduceEq, Int.reduceToNat, Int.reduceAdd, Int.reduceSub, Int.reduceMul, Int.reduceNeg, reduceCtorEq, Option.bind_some, Option.map_some, List.length_cons, List.length_nil, vcM, List.getElem?_toArray, List.getElem?_cons_zero, List.getElem?_cons_succ]
  have hE : Ext w ((w.alloc (Obj.cells (refC rc v) 31)).alloc (Obj.cells (zc [(312, Value.int IntKind.i64 0), (1, Value.slice none 0 0)]) 31)) := by (repeat' first | exact Keep.refl _ _ | assumption | refine Keep.drew ?_ | refine Keep.alloc ?_ _ | refine Keep.putN ?_ _ ?_ | refine Keep.setCell ?_ _ ?_ | refine Keep.setO ?_ _ ?_ | exact fun _ => Or.inl rfl | exact fun _ => Or.inr rfl | exact fun _ => rfl | (intro hh; exfalso; ((try simp only [vcS] at hh) <;> omega)))
  generalize World.alloc (World.alloc _ _) _ = w1 at hp2 hp3 hE ⊢
  (refine W_at c25_ok ?_; refine ⟨_, rfl, ?_⟩; simp (disch := first | omega | assumption | rfl | (simp only [vcS] <;> omega) | fail) only [↓ptV_l, ↓vcA, vcB, ↓vcD, vcE, ↓reduceIte, Nat.reduceEqDiff, Nat.reduceAdd, Nat.reduceMul, Nat.reduceLeDiff, Int.reduceLE, Int.reduceLT, Int.reduceEq, Int.reduceToNat, Int.reduceAdd, Int.reduceSub, Int.reduceMul, Int.reduceNeg, reduceCtorEq, Option.bind_some, Option.map_some, List.length_cons, List.length_nil, vcM, List.getElem?_toArray, List.getElem?_cons_zero, List.getElem?_cons_succ])
  refine rblockA w w1 _ _ rc v ws vi ids h ⟨Nat.le_refl _, by omega, by omega, hp2, hl, hp3, hr.keep hE fun _ _ h => h, Fees.IdsAt.keep hI hE fun _ _ _ h => h, hE⟩ _ fun w2 tl hb2 => ?_
  exact rblockB w w2 _ _ _ v ws vi ids h hb2 hB hn tl
end Go.Proofs
