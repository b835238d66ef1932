/- Laws that the last text of this claim uses, part 4: written for it, merged by program. -/
import Derived.Test.YthjijgmhicplaaaQK3
set_option linter.unusedSimpArgs false
set_option linter.unusedVariables false
set_option linter.constructorNameAsVariable false
namespace Go.Proofs
open Go.Vc Go.RowKit
set_option maxRecDepth 10000

abbrev PE := List Int × Value
/-- Lists of bytes of one's own, above m. -/
structure PtsAt (m : Nat) (w : World) (v : Value) (ts : List PE) : Prop where
  row : w.ownsRow m 22 1 v ts.length (ts.map (·.2))
  own : ∀ t ∈ ts, Own1 w t.2 t.1 ∧ ∀ g, blk t.2 g → m ≤ g
  dist : Dist (ts.map (·.2))
theorem PtsAt.keep {S : Nat → Prop} {m : Nat} {w w' : World} {v : Value} {ts : List PE} (h : PtsAt m w v ts) (k : Keep S w w') (hS : ∀ g c t, (t = 22 ∨ t = 5) → w.heap[g]? = some (.cells c t (0, 0)) → m ≤ g → ¬ S g) : PtsAt m w' v ts := by
  refine ⟨ownsRow_keep h.row k fun g hg => ?_, fun t ht => ⟨(h.own t ht).1.keep k fun g hg => ?_, (h.own t ht).2⟩, h.dist⟩
  · obtain ⟨c, e⟩ := row_type h.row hg
    exact hS g _ _ (.inl rfl) e (own_block h.row hg)
  · obtain ⟨c, e⟩ := row_type (h.own t ht).1 hg
    exact hS g _ _ (.inr rfl) e ((h.own t ht).2 g hg)
theorem PtsAt.ext {m : Nat} {w w' : World} {v : Value} {ts : List PE} (h : PtsAt m w v ts) (k : Ext w w') : PtsAt m w' v ts := h.keep k fun _ _ _ _ _ _ h => h
theorem appV_one3 {w : World} {base el size bytes : Nat} {z : List Value} {v : Value} {n : Nat} {xs : List Value} {cs : List Value} {K : Value → World → Prop}
    (h : w.ownsRow base el size v n xs) (hc : cs.length = size) (hf : flat cs.toArray) (hlen : n + 1 ≤ maxLen) (hb : (n + 1) * bytes ≤ 140737488355328) (hz : z.length = size) (hbase : base ≤ w.heap.size) (hs : 0 < size)
    (hk : ∀ v' w', w'.ownsRow base el size v' (n + 1) (xs ++ cs) → Keep (fun g => v.ownBlock = some g) w w' → (∀ g, v'.ownBlock = some g → v.ownBlock = some g ∨ w.heap.size ≤ g) → K v' w') :
    appV el size bytes z v (.slice (some ⟨w.heap.size, 0, none⟩) 1 1) (w.alloc (.cells cs.toArray el)) K := by
  have hE : Ext w (w.alloc (.cells cs.toArray el)) := (Keep.refl _ w).alloc _
  have hr : rdS (w.alloc (.cells cs.toArray el)) size (.slice (some ⟨w.heap.size, 0, none⟩) 1 1) = some cs.toArray := by
    simp only [rdS, rdN_heap, heap_new _ _ _ rfl, Nat.one_mul]
    rw [if_neg (by omega), rdO_some _ _ _ _ _ (by simp [hc])]
    simp only [Nat.zero_add]
    rw [ext_all _ _ (by simp [hc])]
  refine appV_own3 (ownsRow_keep h hE fun _ _ h => h) rfl hr hf hlen hb hz (by rw [size_alloc]; omega) hs fun v' w' ho hg hgb => hk v' w' ho ?_ fun g hg => (hgb g hg).imp id fun h => by rw [size_alloc] at h; omega
  exact Keep.grown (hE.mono fun _ h => h.elim) hg fun k _ h => h
/-- One more. -/
theorem PtsAt.push {m : Nat} {w : World} {v data : Value} {ts : List PE} {d : List Int} {K : Value → World → Prop} (h : PtsAt m w v ts) (hm : m ≤ w.heap.size) (hlen : ts.length ≤ 1000000) (ho : Own1 w data d) (hd : ∀ g, blk data g → m ≤ g)
    (hn : ∀ t ∈ ts, ∀ g, blk t.2 g → ¬ blk data g)
    (hk : ∀ v' w', PtsAt m w' v' (ts ++ [(d, data)]) → Keep (blk v) w w' → (∀ g, blk v' g → blk v g ∨ w.heap.size ≤ g) → K v' w') :
    appV 22 1 24 [.slice none 0 0] v (.slice (some ⟨w.heap.size, 0, none⟩) 1 1) (w.alloc (.cells [data].toArray 22)) K := by
  have hml : maxLen = 9223372036854775807 := rfl
  refine appV_one3 h.row rfl (by intro z hz; simp at hz; subst hz; exact ho.rd.one) (by omega) (by omega) rfl hm (by omega) fun v' w' h1 h2 h3 => hk v' w' ⟨?_, fun t ht => ?_, ?_⟩ h2 h3
  · rw [List.length_append, List.length_cons, List.length_nil, List.map_append]; exact h1
  · have hne : ∀ g, ∀ u b, Own1 w u b → blk u g → ¬ v.ownBlock = some g := fun g u b hu hg hv => by
      obtain ⟨c1, e1⟩ := row_type hu hg
      obtain ⟨c2, e2⟩ := row_type h.row hv
      rw [e1] at e2; cases e2
    rw [List.mem_append] at ht
    rcases ht with ht | ht
    · exact ⟨(h.own t ht).1.keep h2 fun g hg => hne g _ _ (h.own t ht).1 hg, (h.own t ht).2⟩
    · simp only [List.mem_singleton] at ht
      subst ht
      exact ⟨ho.keep h2 fun g hg => hne g _ _ ho hg, hd⟩
  · rw [List.map_append]
    refine h.dist.snoc fun j hj g hg => ?_
    have hj' : j < ts.length := by simpa using hj
    rw [List.getElem_map] at hg
    exact hn _ (List.getElem_mem hj') g hg
theorem PtsAt.lit {m : Nat} {w : World} {v : Value} {d : List Int} (ho : Own1 w v d) (hd : ∀ g, blk v g → m ≤ g) (hm : m ≤ w.heap.size) : PtsAt m (w.alloc (.cells [v].toArray 22)) (.slice (some ⟨w.heap.size, 0, none⟩) 1 1) [(d, v)] :=
  ⟨ownsRow_lit (w := w) (el := 22) (size := 1) (n := 1) (cs := [v].toArray) hm rfl (by decide), fun t ht => by
    simp only [List.mem_singleton] at ht
    subst ht
    exact ⟨ho.ext ((Keep.refl _ w).alloc _), hd⟩, fun i j hi hj g _ _ => by simp at hi hj; omega⟩
theorem PtsAt.parts {m : Nat} {w : World} {v : Value} {ts : List PE} (h : PtsAt m w v ts) : PartsAt w v (ts.map (·.1)) := by
  refine ⟨ts.map (·.2), rdS_own h.row, by simp, ?_, fun i hi hi' => ?_⟩
  · rcases h.row.2 with ⟨e, hn⟩ | ⟨g, cap, cur, e, _⟩
    · rw [List.length_map, hn]; exact ⟨_, _, e⟩
    · rw [List.length_map]; exact ⟨_, _, e⟩
  · have hi2 : i < ts.length := by simpa using hi
    have := (h.own _ (List.getElem_mem hi2)).1.rd
    simpa using this
def pieceF (keys : List Int) (i : Nat) : List Int := (keys.take (34 * i + 34)).drop (34 * i)
def headOK (keys : List Int) (n : Nat) : Bool := (List.range n).all fun i => (pieceF keys i).head? == some 33
def multiF (s : List Int) : Option (List (List Int)) :=
  if s.length < 3 ∨ s.getLast? ≠ some 174 then none else
  if smallF (s.headD 0) < 1 ∨ smallF (s.headD 0) > smallF (s.getD (s.length - 2) 0) ∨ (((s.take (s.length - 2)).drop 1).length : Int) ≠ 34 * smallF (s.getD (s.length - 2) 0) ∨ headOK ((s.take (s.length - 2)).drop 1) (smallF (s.getD (s.length - 2) 0)).toNat = false then none
  else some ([smallF (s.headD 0)] :: (List.range (smallF (s.getD (s.length - 2) 0)).toNat).map fun i => (pieceF ((s.take (s.length - 2)).drop 1) i).drop 1)
def MulTo (w w' : World) (s : List Int) (u : Value) : Prop := Ext w w' ∧ match multiF s with
  | none => u = .slice none 0 0
  | some ps => ∃ ts : List PE, ts.map (·.1) = ps ∧ PtsAt w.heap.size w' u ts
theorem keepsFrom_of {S : Nat → Prop} {B : Nat} {w w' : World} (h : Keep S w w') (hS : ∀ k, S k → ∀ o, w.heap[k]? = some o → o.isCells = true) : KeepsFrom B w w' := by
  refine ⟨h.size, fun k o _ hk ho => ?_⟩
  have hs : ¬ S k := fun hs => by rw [hS k hs o hk] at ho; cases ho
  exact (h.block k (Array.getElem?_eq_some_iff.1 hk).1 hs).trans hk
theorem at_own {B : Nat} {w w' : World} {row : Option Nat} {p : Nat} {c : Array Value} {t : TypeId} {fr : Nat × Nat} (hg : w.grownBy w' row) (hr : ∀ r, row = some r → B ≤ r ∧ ∃ o : Obj, w.heap[r]? = some o ∧ o.isCells = false)
    (h : w.heap[p]? = some (.cells c t fr)) : w'.heap[p]? = some (.cells c t fr) :=
  (keep_grow hg hr).at h fun hn => by obtain ⟨_, o, ho, hc⟩ := hn; rw [h] at ho; cases ho; cases hc
theorem pts_own {B m : Nat} {w w' : World} {row : Option Nat} {v : Value} {ts : List PE} (hg : w.grownBy w' row) (hr : ∀ r, row = some r → B ≤ r ∧ ∃ o : Obj, w.heap[r]? = some o ∧ o.isCells = false)
    (h : PtsAt m w v ts) : PtsAt m w' v ts :=
  h.keep (keep_grow hg hr) fun g c t _ ho _ hn => by obtain ⟨_, o', ho', hc'⟩ := hn; rw [ho] at ho'; cases ho'; cases hc'
set_option maxHeartbeats 3200000 in
theorem multi_ok (w : World) (x : Value) (s : List Int) (hx : Rd w x s) (hb : byt s) (hl : s.length ≤ 1000000) :
    Calls Try.prog 56 #[x] w (Ret fun u w' => MulTo w w' s u) := by
  refine calls_of_ct 3 t56_ok (Nat.le_of_ble_eq_true rfl) ?_
  simp only [List.toList_toArray]
  simp only [argE_nil, argE_cons, Nat.reduceAdd, Nat.zero_add]
  have hlen := hx.len
  have hz1 : zc [(1, Value.slice none 0 0)] = #[.slice none 0 0] := rfl
  simp (disch := first | omega | assumption | rfl | (simp only [vcS] <;> omega) | fail) only [t56, ↓vcC, slc3_s, ↓ptV_l, ↓vcA, vcB, ↓vcD, vcE, ↓reduceIte, Nat.reduceEqDiff, Nat.reduceAdd, Nat.reduceMul, Nat.reduceLeDiff, Int.reduceLE, Int.reduceLT, Int.reduceEq, Int.reduceToNat, Int.reduceAdd, Int.reduceSub, Int.reduceMul, Int.reduceNeg, reduceCtorEq, Option.bind_some, Option.map_some, List.length_cons, List.length_nil, vcM, List.getElem?_toArray, List.getElem?_cons_zero, List.getElem?_cons_succ, hz1]
  have h2 : (w.alloc (Obj.cells #[.slice none 0 0] 40)).heap[w.heap.size]? = some (.cells #[.slice none 0 0] 40 (0, 0)) := heap_new _ _ _ rfl
  have hE : Ext w (w.alloc (Obj.cells #[.slice none 0 0] 40)) := by (repeat' first | exact Keep.refl _ _ | assumption | refine Keep.drew ?_ | refine Keep.alloc ?_ _ | refine Keep.putN ?_ _ ?_ | refine Keep.setCell ?_ _ ?_ | refine Keep.setO ?_ _ ?_ | exact fun _ => Or.inl rfl | exact fun _ => Or.inr rfl | exact fun _ => rfl | (intro hh; exfalso; ((try simp only [vcS] at hh) <;> omega)))
  have hS1 : w.heap.size < (w.alloc (Obj.cells #[.slice none 0 0] 40)).heap.size := by simp
  have hp2' : w.heap.size ≤ w.heap.size := Nat.le_refl _
  generalize hp2 : w.heap.size = p2 at h2 hp2' hS1 ⊢
  generalize World.alloc _ _ = w1 at h2 hE hS1 ⊢
  have hend : ∀ (K : KD) (e : Env) (wz : World), Vc.look e 2 = some (.pointer (some ⟨p2, 0, none⟩)) → wz.heap[p2]? = some (.cells #[.slice none 0 0] 40 (0, 0)) → Ext w wz → multiF s = none →
      wr1 wz p2 0 ∧ nxV Try.prog 68 .ret none 3 K (lvX [.c1 2] (Ret fun u w' => MulTo w w' s u)) [] e (wz.setCell ⟨p2, 0, none⟩ (.slice none 0 0)) := by
    intro K e wz l2 hh hEz hm
    refine ⟨wr1_of hh (by simp), ?_⟩
    have h3 : (wz.setCell ⟨p2, 0, none⟩ (.slice none 0 0)).heap[p2]? = some (.cells #[.slice none 0 0] 40 (0, 0)) := by rw [heap_setCell_eq hh]; rfl
    (refine nx_at ?_; simp (disch := first | omega | assumption | rfl | (simp only [vcS] <;> omega) | fail) only [↓vcC, slc3_s, ↓ptV_l, ↓vcA, vcB, ↓vcD, vcE, ↓reduceIte, Nat.reduceEqDiff, Nat.reduceAdd, Nat.reduceMul, Nat.reduceLeDiff, Int.reduceLE, Int.reduceLT, Int.reduceEq, Int.reduceToNat, Int.reduceAdd, Int.reduceSub, Int.reduceMul, Int.reduceNeg, reduceCtorEq, Option.bind_some, Option.map_some, List.length_cons, List.length_nil, vcM, List.getElem?_toArray, List.getElem?_cons_zero, List.getElem?_cons_succ, l2, h3, Ret_returned])
    refine ⟨hEz.setCell _ (by omega), ?_⟩
    rw [hm]
  by_cases h3 : (s.length : Int) < 3
  · (refine nx_at ?_; simp (disch := first | omega | assumption | rfl | (simp only [vcS] <;> omega) | fail) only [↓vcC, slc3_s, ↓ptV_l, ↓vcA, vcB, ↓vcD, vcE, ↓reduceIte, Nat.reduceEqDiff, Nat.reduceAdd, Nat.reduceMul, Nat.reduceLeDiff, Int.reduceLE, Int.reduceLT, Int.reduceEq, Int.reduceToNat, Int.reduceAdd, Int.reduceSub, Int.reduceMul, Int.reduceNeg, reduceCtorEq, Option.bind_some, Option.map_some, List.length_cons, List.length_nil, vcM, List.getElem?_toArray, List.getElem?_cons_zero, List.getElem?_cons_succ, hlen, h3])
    (refine nx_at ?_; simp (disch := first | omega | assumption | rfl | (simp only [vcS] <;> omega) | fail) only [↓vcC, slc3_s, ↓ptV_l, ↓vcA, vcB, ↓vcD, vcE, ↓reduceIte, Nat.reduceEqDiff, Nat.reduceAdd, Nat.reduceMul, Nat.reduceLeDiff, Int.reduceLE, Int.reduceLT, Int.reduceEq, Int.reduceToNat, Int.reduceAdd, Int.reduceSub, Int.reduceMul, Int.reduceNeg, reduceCtorEq, Option.bind_some, Option.map_some, List.length_cons, List.length_nil, vcM, List.getElem?_toArray, List.getElem?_cons_zero, List.getElem?_cons_succ])
    exact hend _ _ w1 rfl h2 hE (by rw [multiF, if_pos (by omega)])
  have hil : s.length - 1 < s.length := by omega
  have hiL : s.length - 2 < s.length := by omega
  obtain ⟨b, o, c, rfl, hcell⟩ := (hx.ext hE).at hil
  have hws : IntKind.i64.wrap ((s.length : Int) - 1) = ((s.length - 1 : Nat) : Int) := by rw [wrap_i64 (by omega) (by omega)]; omega
  have hi2 : 0 ≤ ((s.length - 1 : Nat) : Int) ∧ ((s.length - 1 : Nat) : Int) < (s.length : Nat) := by omega
  by_cases hlast : s[s.length - 1] = 174
  · rw [hlast] at hcell
    (refine nx_at ?_; simp (disch := first | omega | assumption | rfl | (simp only [vcS] <;> omega) | fail) only [↓vcC, slc3_s, ↓ptV_l, ↓vcA, vcB, ↓vcD, vcE, ↓reduceIte, Nat.reduceEqDiff, Nat.reduceAdd, Nat.reduceMul, Nat.reduceLeDiff, Int.reduceLE, Int.reduceLT, Int.reduceEq, Int.reduceToNat, Int.reduceAdd, Int.reduceSub, Int.reduceMul, Int.reduceNeg, reduceCtorEq, Option.bind_some, Option.map_some, List.length_cons, List.length_nil, vcM, List.getElem?_toArray, List.getElem?_cons_zero, List.getElem?_cons_succ, h3, hws, hi2, Int.toNat_natCast, Nat.mul_one, hcell])
    (refine nx_at ?_; simp (disch := first | omega | assumption | rfl | (simp only [vcS] <;> omega) | fail) only [↓vcC, slc3_s, ↓ptV_l, ↓vcA, vcB, ↓vcD, vcE, ↓reduceIte, Nat.reduceEqDiff, Nat.reduceAdd, Nat.reduceMul, Nat.reduceLeDiff, Int.reduceLE, Int.reduceLT, Int.reduceEq, Int.reduceToNat, Int.reduceAdd, Int.reduceSub, Int.reduceMul, Int.reduceNeg, reduceCtorEq, Option.bind_some, Option.map_some, List.length_cons, List.length_nil, vcM, List.getElem?_toArray, List.getElem?_cons_zero, List.getElem?_cons_succ])
    have hnl : ¬ (s.length < 3 ∨ s.getLast? ≠ some 174) := by
      intro h
      rcases h with h | h
      · omega
      · apply h
        rw [List.getLast?_eq_getElem?, List.getElem?_eq_getElem hil, hlast]
    have hi0 : 0 < s.length := by omega
    obtain ⟨b0, o0, c0, e0, hc0⟩ := (hx.ext hE).at hi0
    injection e0 with e1 e2 e3
    cases e1; subst e3
    obtain ⟨b0, o0, c0, e0, hcL⟩ := (hx.ext hE).at hiL
    injection e0 with e1 e2 e3
    cases e1; subst e3
    rw [Nat.add_zero] at hc0
    have hcap : s.length ≤ c := by
      obtain ⟨q, c', e, h⟩ := hx.eq
      injection e with _ _ e3; subst e3; exact h
    have hb0 := hb _ (List.getElem_mem hi0)
    have hbL := hb _ (List.getElem_mem hiL)
    have hf0 : s.headD 0 = s[0] := by
      cases s with
      | nil => simp at hi0
      | cons a t => rfl
    have hfL : s.getD (s.length - 2) 0 = s[s.length - 2] := by simp [List.getD, hiL]
    generalize hmm : s[0] = mc at hc0 hb0 hf0
    generalize hnn : s[s.length - 2] = nc at hcL hbL hfL
    have hws2 : IntKind.i64.wrap ((s.length : Int) - 2) = ((s.length - 2 : Nat) : Int) := by rw [wrap_i64 (by omega) (by omega)]; omega
    have i1 : (0 : Int) < (s.length : Nat) := by omega
    have i2 : 0 ≤ ((s.length - 2 : Nat) : Int) ∧ ((s.length - 2 : Nat) : Int) < (s.length : Nat) := by omega
    have hT0 : (0 : Int).toNat = 0 := rfl
    (refine nx_at ?_; simp (disch := first | omega | assumption | rfl | (simp only [vcS] <;> omega) | fail) only [↓vcC, slc3_s, ↓ptV_l, ↓vcA, vcB, ↓vcD, vcE, ↓reduceIte, Nat.reduceEqDiff, Nat.reduceAdd, Nat.reduceMul, Nat.reduceLeDiff, Int.reduceLE, Int.reduceLT, Int.reduceEq, Int.reduceToNat, Int.reduceAdd, Int.reduceSub, Int.reduceMul, Int.reduceNeg, reduceCtorEq, Option.bind_some, Option.map_some, List.length_cons, List.length_nil, vcM, List.getElem?_toArray, List.getElem?_cons_zero, List.getElem?_cons_succ, hws2, i1, i2, hT0, Int.toNat_natCast, Nat.mul_one, hc0, hcL])
    refine callV_ret (small_ok w1.drew mc hb0) ?_
    rintro _ wq ⟨rfl, hw⟩
    obtain rfl : w1.drew = wq := hw.symm
    simp (disch := first | omega | assumption | rfl | (simp only [vcS] <;> omega) | fail) only [↓vcC, slc3_s, ↓ptV_l, ↓vcA, vcB, ↓vcD, vcE, ↓reduceIte, Nat.reduceEqDiff, Nat.reduceAdd, Nat.reduceMul, Nat.reduceLeDiff, Int.reduceLE, Int.reduceLT, Int.reduceEq, Int.reduceToNat, Int.reduceAdd, Int.reduceSub, Int.reduceMul, Int.reduceNeg, reduceCtorEq, Option.bind_some, Option.map_some, List.length_cons, List.length_nil, vcM, List.getElem?_toArray, List.getElem?_cons_zero, List.getElem?_cons_succ, i2, Int.toNat_natCast, Nat.mul_one, hcL]
    refine callV_ret (small_ok w1.drew nc hbL) ?_
    rintro _ wq ⟨rfl, hw⟩
    obtain rfl : w1.drew = wq := hw.symm
    have hEd : Ext w w1.drew := hE.ext (Keep.refl _ w1).drew
    have hS2 : p2 < w1.drew.heap.size := hS1
    have h2d : w1.drew.heap[p2]? = some (.cells #[.slice none 0 0] 40 (0, 0)) := h2
    clear hcL hc0 hcell
    generalize w1.drew = w2 at hEd hS2 h2d ⊢
    first | (simp (disch := first | omega | assumption | rfl | (simp only [vcS] <;> omega) | fail) only [↓vcC, slc3_s, ↓ptV_l, ↓vcA, vcB, ↓vcD, vcE, ↓reduceIte, Nat.reduceEqDiff, Nat.reduceAdd, Nat.reduceMul, Nat.reduceLeDiff, Int.reduceLE, Int.reduceLT, Int.reduceEq, Int.reduceToNat, Int.reduceAdd, Int.reduceSub, Int.reduceMul, Int.reduceNeg, reduceCtorEq, Option.bind_some, Option.map_some, List.length_cons, List.length_nil, vcM, List.getElem?_toArray, List.getElem?_cons_zero, List.getElem?_cons_succ]) | skip
    have hcut := hx.cut (l := 1) (j := s.length - 2) (by omega) (by omega)
    have hbk : byt ((s.take (s.length - 2)).drop 1) := byt_drop (byt_take hb _) _
    have hmF : multiF s = if smallF mc < 1 ∨ smallF mc > smallF nc ∨ (((s.take (s.length - 2)).drop 1).length : Int) ≠ 34 * smallF nc ∨ headOK ((s.take (s.length - 2)).drop 1) (smallF nc).toNat = false then none
        else some ([smallF mc] :: (List.range (smallF nc).toNat).map fun i => (pieceF ((s.take (s.length - 2)).drop 1) i).drop 1) := by
      rw [multiF, if_neg hnl, hf0, hfL]
    have i3 : 0 ≤ ((s.length - 2 : Nat) : Int) ∧ ((s.length - 2 : Nat) : Int) ≤ (c : Nat) := by omega
    have i4 : 1 ≤ ((s.length - 2 : Nat) : Int) := by omega
    have i5 : 0 ≤ (1 : Int) ∧ 1 ≤ ((s.length - 2 : Nat) : Int) := by omega
    have hT1 : (1 : Int).toNat = 1 := rfl
    (refine nx_at ?_; simp (disch := first | omega | assumption | rfl | (simp only [vcS] <;> omega) | fail) only [↓vcC, slc3_s, ↓ptV_l, ↓vcA, vcB, ↓vcD, vcE, ↓reduceIte, Nat.reduceEqDiff, Nat.reduceAdd, Nat.reduceMul, Nat.reduceLeDiff, Int.reduceLE, Int.reduceLT, Int.reduceEq, Int.reduceToNat, Int.reduceAdd, Int.reduceSub, Int.reduceMul, Int.reduceNeg, reduceCtorEq, Option.bind_some, Option.map_some, List.length_cons, List.length_nil, vcM, List.getElem?_toArray, List.getElem?_cons_zero, List.getElem?_cons_succ, hws2, i3, i4, i5, hT1, Int.toNat_natCast])
    have hkl : ((s.take (s.length - 2)).drop 1).length = s.length - 2 - 1 := by rw [List.length_drop, List.length_take]; omega
    generalize (s.take (s.length - 2)).drop 1 = keys at hcut hmF hkl hbk
    generalize advA 1 (some ⟨b, o, none⟩) c 1 = qk at hcut ⊢
    generalize c - 1 = ck at hcut ⊢
    have hkl2 : s.length - 2 - 1 = keys.length := hkl.symm
    rw [hkl2] at hcut ⊢
    have hkb : keys.length ≤ 1000000 := by omega
    clear hkl hkl2 i3 i4 i5 hws2 i1 i2 hws hi2 h3 hnl
    have hmr := smallF_r mc
    have hnr := smallF_r nc
    generalize smallF mc = m at hmF hmr ⊢
    generalize smallF nc = n at hmF hnr ⊢
    have hwm : IntKind.i64.wrap (n * 34) = n * 34 := wrap_i64 (by omega) (by omega)
    by_cases g1 : m < 1
    · (refine nx_at ?_; simp (disch := first | omega | assumption | rfl | (simp only [vcS] <;> omega) | fail) only [↓vcC, slc3_s, ↓ptV_l, ↓vcA, vcB, ↓vcD, vcE, ↓reduceIte, Nat.reduceEqDiff, Nat.reduceAdd, Nat.reduceMul, Nat.reduceLeDiff, Int.reduceLE, Int.reduceLT, Int.reduceEq, Int.reduceToNat, Int.reduceAdd, Int.reduceSub, Int.reduceMul, Int.reduceNeg, reduceCtorEq, Option.bind_some, Option.map_some, List.length_cons, List.length_nil, vcM, List.getElem?_toArray, List.getElem?_cons_zero, List.getElem?_cons_succ, g1])
      (refine nx_at ?_; simp (disch := first | omega | assumption | rfl | (simp only [vcS] <;> omega) | fail) only [↓vcC, slc3_s, ↓ptV_l, ↓vcA, vcB, ↓vcD, vcE, ↓reduceIte, Nat.reduceEqDiff, Nat.reduceAdd, Nat.reduceMul, Nat.reduceLeDiff, Int.reduceLE, Int.reduceLT, Int.reduceEq, Int.reduceToNat, Int.reduceAdd, Int.reduceSub, Int.reduceMul, Int.reduceNeg, reduceCtorEq, Option.bind_some, Option.map_some, List.length_cons, List.length_nil, vcM, List.getElem?_toArray, List.getElem?_cons_zero, List.getElem?_cons_succ])
      exact hend _ _ w2 rfl h2d hEd (by rw [hmF, if_pos (.inl g1)])
    by_cases g2 : n < m
    · (refine nx_at ?_; simp (disch := first | omega | assumption | rfl | (simp only [vcS] <;> omega) | fail) only [↓vcC, slc3_s, ↓ptV_l, ↓vcA, vcB, ↓vcD, vcE, ↓reduceIte, Nat.reduceEqDiff, Nat.reduceAdd, Nat.reduceMul, Nat.reduceLeDiff, Int.reduceLE, Int.reduceLT, Int.reduceEq, Int.reduceToNat, Int.reduceAdd, Int.reduceSub, Int.reduceMul, Int.reduceNeg, reduceCtorEq, Option.bind_some, Option.map_some, List.length_cons, List.length_nil, vcM, List.getElem?_toArray, List.getElem?_cons_zero, List.getElem?_cons_succ, g1, g2])
      (refine nx_at ?_; simp (disch := first | omega | assumption | rfl | (simp only [vcS] <;> omega) | fail) only [↓vcC, slc3_s, ↓ptV_l, ↓vcA, vcB, ↓vcD, vcE, ↓reduceIte, Nat.reduceEqDiff, Nat.reduceAdd, Nat.reduceMul, Nat.reduceLeDiff, Int.reduceLE, Int.reduceLT, Int.reduceEq, Int.reduceToNat, Int.reduceAdd, Int.reduceSub, Int.reduceMul, Int.reduceNeg, reduceCtorEq, Option.bind_some, Option.map_some, List.length_cons, List.length_nil, vcM, List.getElem?_toArray, List.getElem?_cons_zero, List.getElem?_cons_succ])
      exact hend _ _ w2 rfl h2d hEd (by rw [hmF, if_pos (.inr (.inl g2))])
    by_cases g3 : ((keys.length : Nat) : Int) = n * 34
    · obtain ⟨k, rfl⟩ : ∃ k : Nat, n = k := ⟨n.toNat, by omega⟩
      rw [Int.toNat_natCast] at hmF
      have hkk : keys.length = 34 * k := by omega
      have hu8 : IntKind.u8.wrap m = m := by rw [wrap_u8]; omega
      (refine nx_at ?_; simp (disch := first | omega | assumption | rfl | (simp only [vcS] <;> omega) | fail) only [↓vcC, slc3_s, ↓ptV_l, ↓vcA, vcB, ↓vcD, vcE, ↓reduceIte, Nat.reduceEqDiff, Nat.reduceAdd, Nat.reduceMul, Nat.reduceLeDiff, Int.reduceLE, Int.reduceLT, Int.reduceEq, Int.reduceToNat, Int.reduceAdd, Int.reduceSub, Int.reduceMul, Int.reduceNeg, reduceCtorEq, Option.bind_some, Option.map_some, List.length_cons, List.length_nil, vcM, List.getElem?_toArray, List.getElem?_cons_zero, List.getElem?_cons_succ, g1, g2, g3, hwm])
      (refine nx_at ?_; simp (disch := first | omega | assumption | rfl | (simp only [vcS] <;> omega) | fail) only [↓vcC, slc3_s, ↓ptV_l, ↓vcA, vcB, ↓vcD, vcE, ↓reduceIte, Nat.reduceEqDiff, Nat.reduceAdd, Nat.reduceMul, Nat.reduceLeDiff, Int.reduceLE, Int.reduceLT, Int.reduceEq, Int.reduceToNat, Int.reduceAdd, Int.reduceSub, Int.reduceMul, Int.reduceNeg, reduceCtorEq, Option.bind_some, Option.map_some, List.length_cons, List.length_nil, vcM, List.getElem?_toArray, List.getElem?_cons_zero, List.getElem?_cons_succ])
      have hcs : Value.cells (.slice (some ⟨w2.heap.size, 0, none⟩) 1 1) = #[.slice (some ⟨w2.heap.size, 0, none⟩) 1 1] := rfl
      (refine nx_at ?_; simp (disch := first | omega | assumption | rfl | (simp only [vcS] <;> omega) | fail) only [↓vcC, slc3_s, ↓ptV_l, ↓vcA, vcB, ↓vcD, vcE, ↓reduceIte, Nat.reduceEqDiff, Nat.reduceAdd, Nat.reduceMul, Nat.reduceLeDiff, Int.reduceLE, Int.reduceLT, Int.reduceEq, Int.reduceToNat, Int.reduceAdd, Int.reduceSub, Int.reduceMul, Int.reduceNeg, reduceCtorEq, Option.bind_some, Option.map_some, List.length_cons, List.length_nil, vcM, List.getElem?_toArray, List.getElem?_cons_zero, List.getElem?_cons_succ, hu8, hz1, hcs])
      simp only [List.append_nil]
      have hOm : Own1 (w2.alloc (.cells (bv [m]).toArray 5)) (.slice (some ⟨w2.heap.size, 0, none⟩) 1 1) [m] := own_lit1 (w := w2) (bs := [m]) (by simp; decide)
      have hP0 := PtsAt.lit (m := p2) hOm (fun g hg => by cases hg; exact Nat.le_of_lt hS2) (by rw [size_alloc]; omega)
      rw [size_alloc] at hP0
      have hbv : bv [m] = [.int .u8 m] := rfl
      rw [hbv] at hP0
      clear hOm hbv
      have hE3 : Ext w2 ((w2.alloc (.cells [.int .u8 m].toArray 5)).alloc (.cells [.slice (some ⟨w2.heap.size, 0, none⟩) 1 1].toArray 22)) := ((Keep.refl _ w2).alloc _).alloc _
      have hS3 : ((w2.alloc (.cells [.int .u8 m].toArray 5)).alloc (.cells [.slice (some ⟨w2.heap.size, 0, none⟩) 1 1].toArray 22)).heap.size = w2.heap.size + 1 + 1 := by rw [size_alloc, size_alloc]
      generalize World.alloc (World.alloc w2 _) _ = w3 at hP0 hE3 hS3 ⊢
      generalize (Value.slice (some ⟨w2.heap.size, 0, none⟩) 1 1) = v0 at hP0
      generalize (Value.slice (some ⟨w2.heap.size + 1, 0, none⟩) 1 1) = out0 at hP0 ⊢
      have h6a : (w3.alloc (.cells #[.slice none 0 0] 40)).heap[w2.heap.size + 1 + 1]? = some (.cells #[.slice none 0 0] 40 (0, 0)) := heap_new _ _ _ hS3.symm
      have hE4 : Ext w3 ((w3.alloc (.cells #[.slice none 0 0] 40)).setCell ⟨w2.heap.size + 1 + 1, 0, none⟩ out0) := ((Keep.refl _ w3).alloc _).setCell _ (by intro hh; exfalso; omega)
      refine ⟨wr1_of h6a (by simp), ?_⟩
      have h6 : ((w3.alloc (.cells #[.slice none 0 0] 40)).setCell ⟨w2.heap.size + 1 + 1, 0, none⟩ out0).heap[w2.heap.size + 1 + 1]? = some (.cells #[out0] 40 (0, 0)) := by rw [heap_setCell_eq h6a]; rfl
      have hp6 : p2 < w2.heap.size + 1 + 1 := by omega
      generalize World.setCell _ _ _ = w6 at hE4 h6 ⊢
      generalize w2.heap.size + 1 + 1 = p6 at h6 hp6 ⊢
      have hP := hP0.ext hE4
      have hE6 := (hEd.ext hE3).ext hE4
      have h2z := (hE3.ext hE4).at h2d (fun h => h)
      clear hcs hP0 hE3 hE4 h6a hS3 hS2 h2d hEd
      have hck : (Value.slice qk keys.length ck).cells = #[.slice qk keys.length ck] := rfl
      (refine nx_at ?_; simp (disch := first | omega | assumption | rfl | (simp only [vcS] <;> omega) | fail) only [↓vcC, slc3_s, ↓ptV_l, ↓vcA, vcB, ↓vcD, vcE, ↓reduceIte, Nat.reduceEqDiff, Nat.reduceAdd, Nat.reduceMul, Nat.reduceLeDiff, Int.reduceLE, Int.reduceLT, Int.reduceEq, Int.reduceToNat, Int.reduceAdd, Int.reduceSub, Int.reduceMul, Int.reduceNeg, reduceCtorEq, Option.bind_some, Option.map_some, List.length_cons, List.length_nil, vcM, List.getElem?_toArray, List.getElem?_cons_zero, List.getElem?_cons_succ])
      refine callV_ret (chunk_ok w6 (.slice qk keys.length ck) 34 hck (by decide) (by decide)) ?_
      rintro _ w7 ⟨b1, b2, T1, T2, rfl, hm1, hm2, hE7, hl1, hl2, hl3, hl4⟩
      first | (simp (disch := first | omega | assumption | rfl | (simp only [vcS] <;> omega) | fail) only [↓vcC, slc3_s, ↓ptV_l, ↓vcA, vcB, ↓vcD, vcE, ↓reduceIte, Nat.reduceEqDiff, Nat.reduceAdd, Nat.reduceMul, Nat.reduceLeDiff, Int.reduceLE, Int.reduceLT, Int.reduceEq, Int.reduceToNat, Int.reduceAdd, Int.reduceSub, Int.reduceMul, Int.reduceNeg, reduceCtorEq, Option.bind_some, Option.map_some, List.length_cons, List.length_nil, vcM, List.getElem?_toArray, List.getElem?_cons_zero, List.getElem?_cons_succ]) | skip
      (refine nx_at ?_; simp (disch := first | omega | assumption | rfl | (simp only [vcS] <;> omega) | fail) only [↓vcC, slc3_s, ↓ptV_l, ↓vcA, vcB, ↓vcD, vcE, ↓reduceIte, Nat.reduceEqDiff, Nat.reduceAdd, Nat.reduceMul, Nat.reduceLeDiff, Int.reduceLE, Int.reduceLT, Int.reduceEq, Int.reduceToNat, Int.reduceAdd, Int.reduceSub, Int.reduceMul, Int.reduceNeg, reduceCtorEq, Option.bind_some, Option.map_some, List.length_cons, List.length_nil, vcM, List.getElem?_toArray, List.getElem?_cons_zero, List.getElem?_cons_succ])
      have hE := hE6.ext hE7
      have h2y := hE7.at h2z (fun h => h)
      have h6y := hE7.at h6 (fun h => h)
      have hPy := hP.ext hE7
      have hp6b : p6 < w6.heap.size := (Array.getElem?_eq_some_iff.1 h6).1
      have hp2b : p2 < w6.heap.size := (Array.getElem?_eq_some_iff.1 h2z).1
      have hob : ∀ g, blk out0 g → g ≠ b1 ∧ g ≠ b2 := fun g hg => by
        obtain ⟨c1, e1⟩ := row_type hP.row hg
        have := (Array.getElem?_eq_some_iff.1 e1).1
        omega
      clear hP h6 h2z hE6
      have hst := chunk_stops w7 b1 b2 keys.length ck 34 k qk T1 T2 hm1 hm2 hl1 hl2 hkk (by obtain ⟨q, c', e, h⟩ := hcut.eq; injection e with _ _ e3; subst e3; exact h) (by decide) (by omega) (by decide)
      refine rg_of [b1, b2] (by decide) _ _ _ _ _ _
        (fun (pre : List (Fin k)) W => Ext w W ∧ W.heap[p2]? = some (.cells #[.slice none 0 0] 40 (0, 0)) ∧ w7.heap.size ≤ W.heap.size ∧ ∃ out ts, W.heap[p6]? = some (.cells #[out] 40 (0, 0)) ∧ PtsAt p2 W out ts ∧
          ts.map (·.1) = [m] :: pre.map (fun i => (pieceF keys i.val).drop 1) ∧ (∀ i ∈ pre, (pieceF keys i.val).head? = some 33) ∧ ts.length ≤ pre.length + 1 ∧ (∀ g, blk out g → g ≠ b1 ∧ g ≠ b2))
        (fun key pre W => key = none ∧ Ext w W ∧ W.heap[p2]? = some (.cells #[.slice none 0 0] 40 (0, 0)) ∧ multiF s = none)
        (fun i e1 _ => Vc.look e1 7 = some (chV qk 34 i.val) ∧ Vc.look e1 2 = some (.pointer (some ⟨p2, 0, none⟩)) ∧ Vc.look e1 6 = some (.pointer (some ⟨p6, 0, none⟩)))
        rfl rfl (by intro b hb; simp at hb; omega) hst (fun _ => rfl) ?_ ?_ ⟨hE, h2y, Nat.le_refl _, out0, _, h6y, hPy, rfl, (by intro i hi; cases hi), (by simp), hob⟩ (fun _ _ _ _ _ _ h _ _ => h) ?_ ?_ ?_ ?_
      · rintro pre W W' row ⟨g1, g2, gs, out, ts, g3, g4, g5, g6, g7⟩ hg hr
        exact ⟨g1.trans (keep_grow hg hr) fun i hi hk => by have := hk.1; have := hE.size; omega, at_own hg hr g2, Nat.le_trans gs hg.size, out, ts, at_own hg hr g3, pts_own hg hr g4, g5, g6, g7⟩
      · rintro key pre W W' row ⟨g0, g1, g2, g3⟩ hg hr
        exact ⟨g0, g1.trans (keep_grow hg hr) fun i hi hk => by have := hk.1; have := hE.size; omega, at_own hg hr g2, g3⟩
      · intro l pre i W hI
        show ctV _ _ _ _ _ _ _ _ ((56, chV qk 34 i.val) :: _) _
        simp (disch := first | omega | assumption | rfl | (simp only [vcS] <;> omega) | fail) only [↓vcC, slc3_s, ↓ptV_l, ↓vcA, vcB, ↓vcD, vcE, ↓reduceIte, Nat.reduceEqDiff, Nat.reduceAdd, Nat.reduceMul, Nat.reduceLeDiff, Int.reduceLE, Int.reduceLT, Int.reduceEq, Int.reduceToNat, Int.reduceAdd, Int.reduceSub, Int.reduceMul, Int.reduceNeg, reduceCtorEq, Option.bind_some, Option.map_some, List.length_cons, List.length_nil, vcM, List.getElem?_toArray, List.getElem?_cons_zero, List.getElem?_cons_succ]
        exact ⟨KeepsFrom.refl _ _, fun _ _ => rfl, hI⟩
      · rintro l pre i e1 W hl1 hr ⟨g1, g2, gs, out, ts, g3, g4, g5, g6, g7, g8⟩ ⟨l7, l2, l6⟩ hlt
        have hkn : (k : Int) ≤ 16 := by omega
        have hpl : (pieceF keys i.val).length = 34 := by
          have := i.isLt
          have h1 : 34 * i.val + 34 ≤ 34 * k := by omega
          rw [pieceF, List.length_drop, List.length_take]; omega
        have hRx : Rd W (chV qk 34 i.val) (pieceF keys i.val) := chV_rd (hcut.ext g1) (by decide) (by have := i.isLt; omega)
        have hpb : byt (pieceF keys i.val) := byt_drop (byt_take hbk _) _
        obtain ⟨bx, ox, cx, hxe, hx0⟩ := hRx.at (i := 0) (by omega)
        rw [hxe] at hRx l7
        rw [hpl] at hRx l7
        clear hxe
        rw [Nat.add_zero] at hx0
        have hd1 : (pieceF keys i.val).head? = some (pieceF keys i.val)[0] := by rw [List.head?_eq_getElem?, List.getElem?_eq_getElem]
        have hcx : 34 ≤ cx := by
          obtain ⟨q, c', e, h⟩ := hRx.eq
          injection e with _ _ e3; subst e3; omega
        generalize (pieceF keys i.val)[0] = z at hx0 hd1
        have j1 : (0 : Int) < ((34 : Nat) : Int) := by decide
        have hT0 : (0 : Int).toNat = 0 := rfl
        by_cases hz : z = 33
        · subst hz
          simp (disch := first | omega | assumption | rfl | (simp only [vcS] <;> omega) | fail) only [↓vcC, slc3_s, ↓ptV_l, ↓vcA, vcB, ↓vcD, vcE, ↓reduceIte, Nat.reduceEqDiff, Nat.reduceAdd, Nat.reduceMul, Nat.reduceLeDiff, Int.reduceLE, Int.reduceLT, Int.reduceEq, Int.reduceToNat, Int.reduceAdd, Int.reduceSub, Int.reduceMul, Int.reduceNeg, reduceCtorEq, Option.bind_some, Option.map_some, List.length_cons, List.length_nil, vcM, List.getElem?_toArray, List.getElem?_cons_zero, List.getElem?_cons_succ, l7, j1, hT0, hx0]
          (refine nx_at ?_; simp (disch := first | omega | assumption | rfl | (simp only [vcS] <;> omega) | fail) only [↓vcC, slc3_s, ↓ptV_l, ↓vcA, vcB, ↓vcD, vcE, ↓reduceIte, Nat.reduceEqDiff, Nat.reduceAdd, Nat.reduceMul, Nat.reduceLeDiff, Int.reduceLE, Int.reduceLT, Int.reduceEq, Int.reduceToNat, Int.reduceAdd, Int.reduceSub, Int.reduceMul, Int.reduceNeg, reduceCtorEq, Option.bind_some, Option.map_some, List.length_cons, List.length_nil, vcM, List.getElem?_toArray, List.getElem?_cons_zero, List.getElem?_cons_succ])
          have j2 : 0 ≤ (1 : Int) ∧ (1 : Int) ≤ ((34 : Nat) : Int) := by decide
          have hT1 : (1 : Int).toNat = 1 := rfl
          have hcl := hRx.cut (l := 1) (j := 34) (by decide) (by decide)
          rw [List.take_of_length_le (by omega)] at hcl
          (refine nx_at ?_; simp (disch := first | omega | assumption | rfl | (simp only [vcS] <;> omega) | fail) only [↓vcC, slc3_s, ↓ptV_l, ↓vcA, vcB, ↓vcD, vcE, ↓reduceIte, Nat.reduceEqDiff, Nat.reduceAdd, Nat.reduceMul, Nat.reduceLeDiff, Int.reduceLE, Int.reduceLT, Int.reduceEq, Int.reduceToNat, Int.reduceAdd, Int.reduceSub, Int.reduceMul, Int.reduceNeg, reduceCtorEq, Option.bind_some, Option.map_some, List.length_cons, List.length_nil, vcM, List.getElem?_toArray, List.getElem?_cons_zero, List.getElem?_cons_succ, l6, l7, g3, j2, hT1, Nat.reduceSub])
          refine callV_ret (clone_ok W.drew _ ((pieceF keys i.val).drop 1) (hcl.ext (Keep.refl _ W).drew) (by rw [List.length_drop]; omega)) ?_
          rintro data w9 ⟨o1, o2, o3⟩
          have hE9 : Ext W w9 := (Keep.refl _ W).drew.ext o2
          have q6 := hE9.at g3 (fun h => h)
          have q2 := hE9.at g2 (fun h => h)
          have hP9 := g4.ext hE9
          have hg9 := hE9.size
          have hw9 : w.heap.size ≤ w9.heap.size := Nat.le_trans hE.size (Nat.le_trans gs hg9)
          have o3' : ∀ g, blk data g → W.heap.size ≤ g := o3
          have q6a : ∀ o, (w9.alloc o).heap[p6]? = some (.cells #[out] 40 (0, 0)) := fun o => by rw [heap_old _ _ _ (Nat.ne_of_lt (Array.getElem?_eq_some_iff.1 q6).1)]; exact q6
          have hdc : data.cells = #[data] := by obtain ⟨q, c', rfl, _⟩ := o1.rd.eq; rfl
          simp (disch := first | omega | assumption | rfl | (simp only [vcS] <;> omega) | fail) only [↓vcC, slc3_s, ↓ptV_l, ↓vcA, vcB, ↓vcD, vcE, ↓reduceIte, Nat.reduceEqDiff, Nat.reduceAdd, Nat.reduceMul, Nat.reduceLeDiff, Int.reduceLE, Int.reduceLT, Int.reduceEq, Int.reduceToNat, Int.reduceAdd, Int.reduceSub, Int.reduceMul, Int.reduceNeg, reduceCtorEq, Option.bind_some, Option.map_some, List.length_cons, List.length_nil, vcM, List.getElem?_toArray, List.getElem?_cons_zero, List.getElem?_cons_succ, q6, hdc, q6a]
          refine PtsAt.push hP9 (by omega) (by omega) o1 (fun g hg => by have := o3' g hg; omega) (fun t ht g hg hg2 => ?_) fun out' w10 h1 h2 h3 => ?_
          · have h8 := (g4.own t ht).1.lt hg
            have := o3' g hg2
            omega
          have hnb : ∀ p, w9.heap[p]? = some (.cells #[out] 40 (0, 0)) ∨ w9.heap[p]? = some (.cells #[.slice none 0 0] 40 (0, 0)) → ¬ blk out p := fun p hp hb => by
            obtain ⟨c1, e1⟩ := row_type hP9.row hb
            rcases hp with hp | hp <;> rw [e1] at hp <;> cases hp
          have r6 := h2.at q6 (hnb p6 (.inl q6))
          have r2 := h2.at q2 (hnb p2 (.inr q2))
          first | (simp (disch := first | omega | assumption | rfl | (simp only [vcS] <;> omega) | fail) only [↓vcC, slc3_s, ↓ptV_l, ↓vcA, vcB, ↓vcD, vcE, ↓reduceIte, Nat.reduceEqDiff, Nat.reduceAdd, Nat.reduceMul, Nat.reduceLeDiff, Int.reduceLE, Int.reduceLT, Int.reduceEq, Int.reduceToNat, Int.reduceAdd, Int.reduceSub, Int.reduceMul, Int.reduceNeg, reduceCtorEq, Option.bind_some, Option.map_some, List.length_cons, List.length_nil, vcM, List.getElem?_toArray, List.getElem?_cons_zero, List.getElem?_cons_succ, l6]) | skip
          have hkp : Keep (fun i => i = p6 ∨ blk out i) W (w10.setCell ⟨p6, 0, none⟩ out') := ((hE9.mono (fun _ h => h.elim)).trans h2 (fun i _ h => .inr h)).setCell _ (fun _ => .inl rfl)
          have hst6 : Keep (fun i => i = p6) w10 (w10.setCell ⟨p6, 0, none⟩ out') := (Keep.refl _ w10).setCell _ (fun _ => rfl)
          refine ⟨one_row h1.row, wr1_of r6 (by simp), keepsFrom_of hkp fun i hi o ho => ?_, fun b hb => ?_, g1.trans hkp fun i hi hs => ?_, r2, by have := h2.size; omega, out', _, ?_, h1.keep hst6 fun g c t ht hg _ he => ?_, ?_, ?_, ?_, ?_⟩
          · rcases hi with hi | hi
            · subst hi; rw [g3] at ho; cases ho; rfl
            · obtain ⟨c1, e1⟩ := row_type g4.row hi
              rw [e1] at ho; cases ho; rfl
          · simp only [List.mem_cons, List.not_mem_nil, or_false] at hb
            refine hkp.block b (by omega) fun hs => ?_
            rcases hs with hs | hs
            · omega
            · have := g8 b hs
              omega
          · rcases hs with hs | hs
            · omega
            · have := own_block g4.row hs
              omega
          · rw [heap_setCell_eq r6]; rfl
          · subst he
            rw [r6] at hg
            rcases ht with rfl | rfl <;> cases hg
          · rw [List.map_append, g5, List.map_append]; rfl
          · intro j hj
            rcases List.mem_append.1 hj with hj | hj
            · exact g6 j hj
            · obtain rfl : j = i := by simpa using hj
              exact hd1
          · rw [List.length_append, List.length_append, List.length_cons, List.length_nil, List.length_cons, List.length_nil]; omega
          · intro g hg
            rcases h3 g hg with h | h
            · exact g8 g h
            · omega
        · simp (disch := first | omega | assumption | rfl | (simp only [vcS] <;> omega) | fail) only [↓vcC, slc3_s, ↓ptV_l, ↓vcA, vcB, ↓vcD, vcE, ↓reduceIte, Nat.reduceEqDiff, Nat.reduceAdd, Nat.reduceMul, Nat.reduceLeDiff, Int.reduceLE, Int.reduceLT, Int.reduceEq, Int.reduceToNat, Int.reduceAdd, Int.reduceSub, Int.reduceMul, Int.reduceNeg, reduceCtorEq, Option.bind_some, Option.map_some, List.length_cons, List.length_nil, vcM, List.getElem?_toArray, List.getElem?_cons_zero, List.getElem?_cons_succ, l7, l2, j1, hT0, hx0, hz]
          (refine nx_at ?_; simp (disch := first | omega | assumption | rfl | (simp only [vcS] <;> omega) | fail) only [↓vcC, slc3_s, ↓ptV_l, ↓vcA, vcB, ↓vcD, vcE, ↓reduceIte, Nat.reduceEqDiff, Nat.reduceAdd, Nat.reduceMul, Nat.reduceLeDiff, Int.reduceLE, Int.reduceLT, Int.reduceEq, Int.reduceToNat, Int.reduceAdd, Int.reduceSub, Int.reduceMul, Int.reduceNeg, reduceCtorEq, Option.bind_some, Option.map_some, List.length_cons, List.length_nil, vcM, List.getElem?_toArray, List.getElem?_cons_zero, List.getElem?_cons_succ, l2])
          refine ⟨wr1_of g2 (by simp), ?_⟩
          (refine nx_at ?_; simp (disch := first | omega | assumption | rfl | (simp only [vcS] <;> omega) | fail) only [↓vcC, slc3_s, ↓ptV_l, ↓vcA, vcB, ↓vcD, vcE, ↓reduceIte, Nat.reduceEqDiff, Nat.reduceAdd, Nat.reduceMul, Nat.reduceLeDiff, Int.reduceLE, Int.reduceLT, Int.reduceEq, Int.reduceToNat, Int.reduceAdd, Int.reduceSub, Int.reduceMul, Int.reduceNeg, reduceCtorEq, Option.bind_some, Option.map_some, List.length_cons, List.length_nil, vcM, List.getElem?_toArray, List.getElem?_cons_zero, List.getElem?_cons_succ])
          have hkp : Keep (fun i => i = p2) W (W.setCell ⟨p2, 0, none⟩ (.slice none 0 0)) := (Keep.refl _ W).setCell _ (fun _ => rfl)
          refine ⟨keepsFrom_of hkp fun i hi o ho => ?_, g1.setCell _ (by omega), ?_, ?_⟩
          · subst hi; rw [g2] at ho; cases ho; rfl
          · rw [heap_setCell_eq g2]; rfl
          · rw [hmF]
            refine if_pos (.inr (.inr (.inr ?_)))
            rw [headOK, List.all_eq_false]
            exact ⟨i.val, by simp, by rw [hd1]; simpa using hz⟩
      · rintro D xs W hD rfl ⟨g1, g2, gs, out, ts, g3, g4, g5, g6, g7, g8⟩ hDK
        have hDp : ∀ p c t, W.heap[p]? = some (.cells c t (0, 0)) → p ≠ D := fun p c t hp e => by subst e; rw [hDK] at hp; cases hp
        have hD2 := hDp _ _ _ g2
        (refine nx_at ?_; simp (disch := first | omega | assumption | rfl | (simp only [vcS] <;> omega) | fail) only [↓vcC, slc3_s, ↓ptV_l, ↓vcA, vcB, ↓vcD, vcE, ↓reduceIte, Nat.reduceEqDiff, Nat.reduceAdd, Nat.reduceMul, Nat.reduceLeDiff, Int.reduceLE, Int.reduceLT, Int.reduceEq, Int.reduceToNat, Int.reduceAdd, Int.reduceSub, Int.reduceMul, Int.reduceNeg, reduceCtorEq, Option.bind_some, Option.map_some, List.length_cons, List.length_nil, vcM, List.getElem?_toArray, List.getElem?_cons_zero, List.getElem?_cons_succ, g3])
        refine ⟨one_row g4.row, wr1_of g2 (by simp), ?_⟩
        have s2 : (W.setCell ⟨p2, 0, none⟩ out).heap[p2]? = some (.cells #[out] 40 (0, 0)) := by rw [heap_setCell_eq g2]; rfl
        have sD : (W.setCell ⟨p2, 0, none⟩ out).heap[D]? = some (.deferred (some [])) := (heap_setCell_ne W p2 D 0 none out (fun e => hD2 e.symm)).trans hDK
        have hkp : Keep (fun i => i = p2) W (W.setCell ⟨p2, 0, none⟩ out) := (Keep.refl _ W).setCell _ (fun _ => rfl)
        have hkf : Keep (fun i => i = p2 ∨ i = D) W ((W.setCell ⟨p2, 0, none⟩ out).putObj D (.deferred none)) := (hkp.mono (fun _ h => .inl h)).grown (grownBy_putObj' _ D _) (fun i _ h => by cases h; exact .inr rfl)
        have s2' : ((W.setCell ⟨p2, 0, none⟩ out).putObj D (.deferred none)).heap[p2]? = some (.cells #[out] 40 (0, 0)) := by rw [World.putObj_heap_other hD2]; exact s2
        (refine nx_at ?_; simp (disch := first | omega | assumption | rfl | (simp only [vcS] <;> omega) | fail) only [↓vcC, slc3_s, ↓ptV_l, ↓vcA, vcB, ↓vcD, vcE, ↓reduceIte, Nat.reduceEqDiff, Nat.reduceAdd, Nat.reduceMul, Nat.reduceLeDiff, Int.reduceLE, Int.reduceLT, Int.reduceEq, Int.reduceToNat, Int.reduceAdd, Int.reduceSub, Int.reduceMul, Int.reduceNeg, reduceCtorEq, Option.bind_some, Option.map_some, List.length_cons, List.length_nil, vcM, List.getElem?_toArray, List.getElem?_cons_zero, List.getElem?_cons_succ])
        refine lvV_cons sD ?_
        simp (disch := first | omega | assumption | rfl | (simp only [vcS] <;> omega) | fail) only [↓vcC, slc3_s, ↓ptV_l, ↓vcA, vcB, ↓vcD, vcE, ↓reduceIte, Nat.reduceEqDiff, Nat.reduceAdd, Nat.reduceMul, Nat.reduceLeDiff, Int.reduceLE, Int.reduceLT, Int.reduceEq, Int.reduceToNat, Int.reduceAdd, Int.reduceSub, Int.reduceMul, Int.reduceNeg, reduceCtorEq, Option.bind_some, Option.map_some, List.length_cons, List.length_nil, vcM, List.getElem?_toArray, List.getElem?_cons_zero, List.getElem?_cons_succ, s2', Ret_returned]
        refine ⟨g1.trans hkf fun i hi hs => by rcases hs with hs | hs <;> omega, ?_⟩
        have hho : headOK keys k = true := by
          rw [headOK, List.all_eq_true]
          intro j hj
          have hj' : j < k := by simpa using hj
          have := g6 ⟨j, hj'⟩ (by simp)
          simpa using this
        rw [hmF, if_neg (by rw [hho]; simp; omega)]
        refine ⟨ts, ?_, ?_⟩
        · rw [g5, fin_map k fun j => (pieceF keys j).drop 1]
        · rw [hp2]
          refine g4.keep hkf fun g c t ht hg _ hs => ?_
          rcases hs with rfl | rfl
          · rw [g2] at hg
            rcases ht with rfl | rfl <;> cases hg
          · rw [hDK] at hg; cases hg
      · rintro D key pre W hD _ ⟨rfl, g1, g2, g3⟩ hDK
        have hD2 : p2 ≠ D := fun e => by subst e; rw [hDK] at g2; cases g2
        simp (disch := first | omega | assumption | rfl | (simp only [vcS] <;> omega) | fail) only [↓vcC, slc3_s, ↓ptV_l, ↓vcA, vcB, ↓vcD, vcE, ↓reduceIte, Nat.reduceEqDiff, Nat.reduceAdd, Nat.reduceMul, Nat.reduceLeDiff, Int.reduceLE, Int.reduceLT, Int.reduceEq, Int.reduceToNat, Int.reduceAdd, Int.reduceSub, Int.reduceMul, Int.reduceNeg, reduceCtorEq, Option.bind_some, Option.map_some, List.length_cons, List.length_nil, vcM, List.getElem?_toArray, List.getElem?_cons_zero, List.getElem?_cons_succ]
        refine lvV_cons hDK ?_
        have s2 : (W.putObj D (.deferred none)).heap[p2]? = some (.cells #[.slice none 0 0] 40 (0, 0)) := by rw [World.putObj_heap_other hD2]; exact g2
        simp (disch := first | omega | assumption | rfl | (simp only [vcS] <;> omega) | fail) only [↓vcC, slc3_s, ↓ptV_l, ↓vcA, vcB, ↓vcD, vcE, ↓reduceIte, Nat.reduceEqDiff, Nat.reduceAdd, Nat.reduceMul, Nat.reduceLeDiff, Int.reduceLE, Int.reduceLT, Int.reduceEq, Int.reduceToNat, Int.reduceAdd, Int.reduceSub, Int.reduceMul, Int.reduceNeg, reduceCtorEq, Option.bind_some, Option.map_some, List.length_cons, List.length_nil, vcM, List.getElem?_toArray, List.getElem?_cons_zero, List.getElem?_cons_succ, s2, Ret_returned]
        refine ⟨g1.grown (grownBy_putObj' W D _) (fun i hi h => by cases h; omega), ?_⟩
        rw [g3]
    · (refine nx_at ?_; simp (disch := first | omega | assumption | rfl | (simp only [vcS] <;> omega) | fail) only [↓vcC, slc3_s, ↓ptV_l, ↓vcA, vcB, ↓vcD, vcE, ↓reduceIte, Nat.reduceEqDiff, Nat.reduceAdd, Nat.reduceMul, Nat.reduceLeDiff, Int.reduceLE, Int.reduceLT, Int.reduceEq, Int.reduceToNat, Int.reduceAdd, Int.reduceSub, Int.reduceMul, Int.reduceNeg, reduceCtorEq, Option.bind_some, Option.map_some, List.length_cons, List.length_nil, vcM, List.getElem?_toArray, List.getElem?_cons_zero, List.getElem?_cons_succ, g1, g2, g3, hwm])
      (refine nx_at ?_; simp (disch := first | omega | assumption | rfl | (simp only [vcS] <;> omega) | fail) only [↓vcC, slc3_s, ↓ptV_l, ↓vcA, vcB, ↓vcD, vcE, ↓reduceIte, Nat.reduceEqDiff, Nat.reduceAdd, Nat.reduceMul, Nat.reduceLeDiff, Int.reduceLE, Int.reduceLT, Int.reduceEq, Int.reduceToNat, Int.reduceAdd, Int.reduceSub, Int.reduceMul, Int.reduceNeg, reduceCtorEq, Option.bind_some, Option.map_some, List.length_cons, List.length_nil, vcM, List.getElem?_toArray, List.getElem?_cons_zero, List.getElem?_cons_succ])
      exact hend _ _ w2 rfl h2d hEd (by rw [hmF, if_pos (.inr (.inr (.inl (by omega))))])
  · (refine nx_at ?_; simp (disch := first | omega | assumption | rfl | (simp only [vcS] <;> omega) | fail) only [↓vcC, slc3_s, ↓ptV_l, ↓vcA, vcB, ↓vcD, vcE, ↓reduceIte, Nat.reduceEqDiff, Nat.reduceAdd, Nat.reduceMul, Nat.reduceLeDiff, Int.reduceLE, Int.reduceLT, Int.reduceEq, Int.reduceToNat, Int.reduceAdd, Int.reduceSub, Int.reduceMul, Int.reduceNeg, reduceCtorEq, Option.bind_some, Option.map_some, List.length_cons, List.length_nil, vcM, List.getElem?_toArray, List.getElem?_cons_zero, List.getElem?_cons_succ, h3, hws, hi2, Int.toNat_natCast, Nat.mul_one, hcell, hlast])
    (refine nx_at ?_; simp (disch := first | omega | assumption | rfl | (simp only [vcS] <;> omega) | fail) only [↓vcC, slc3_s, ↓ptV_l, ↓vcA, vcB, ↓vcD, vcE, ↓reduceIte, Nat.reduceEqDiff, Nat.reduceAdd, Nat.reduceMul, Nat.reduceLeDiff, Int.reduceLE, Int.reduceLT, Int.reduceEq, Int.reduceToNat, Int.reduceAdd, Int.reduceSub, Int.reduceMul, Int.reduceNeg, reduceCtorEq, Option.bind_some, Option.map_some, List.length_cons, List.length_nil, vcM, List.getElem?_toArray, List.getElem?_cons_zero, List.getElem?_cons_succ])
    refine hend _ _ w1 rfl h2 hE (by rw [multiF, if_pos (.inr ?_)])
    rw [List.getLast?_eq_getElem?, List.getElem?_eq_getElem hil]
    simpa using hlast
end Go.Proofs
namespace Go.Proofs
open Go.Vc
set_option maxRecDepth 10000

def pmB (m : Int) (ks : List (List Int)) : List Int := (80 + m) :: ks.flatMap (33 :: ·) ++ [80 + (ks.length : Int), 174]
end Go.Proofs
namespace Go.Proofs
open Go.Vc
set_option maxRecDepth 10000

/-! What is made is known. -/
def keyL (ks : List (List Int)) : List Int := ks.flatMap (33 :: ·)
theorem keyL_len : ∀ {ks : List (List Int)}, (∀ k ∈ ks, k.length = 33) → (keyL ks).length = 34 * ks.length
  | [], _ => rfl
  | a :: l, h => by
    have := keyL_len (ks := l) fun k hk => h k (by simp [hk])
    rw [keyL] at this ⊢
    rw [List.flatMap_cons, List.length_append, List.length_cons, this, h a (by simp), List.length_cons]; omega
theorem piece_key : ∀ {ks : List (List Int)} (i : Nat), (∀ k ∈ ks, k.length = 33) → (h : i < ks.length) → pieceF (keyL ks) i = 33 :: ks[i]
  | a :: l, 0, h, _ => by
    have ha : a.length = 33 := h a (by simp)
    rw [pieceF, keyL, List.flatMap_cons]
    simp only [Nat.mul_zero, Nat.zero_add, List.drop_zero, List.getElem_cons_zero]
    rw [List.take_append_of_le_length (by rw [List.length_cons]; omega), List.take_of_length_le (by rw [List.length_cons]; omega)]
  | a :: l, i + 1, h, hi => by
    have ha : a.length = 33 := h a (by simp)
    have ih := piece_key (ks := l) i (fun k hk => h k (by simp [hk])) (by simpa using hi)
    rw [pieceF] at ih
    rw [pieceF, keyL, List.flatMap_cons]
    have e1 : 34 * (i + 1) = (33 :: a).length + 34 * i := by rw [List.length_cons]; omega
    have e2 : 34 * (i + 1) + 34 = (33 :: a).length + (34 * i + 34) := by rw [List.length_cons]; omega
    rw [e2, e1, List.take_length_add_append, List.drop_length_add_append, List.getElem_cons_succ]
    exact ih
theorem multi_pm {m : Int} {ks : List (List Int)} (hm : 1 ≤ m) (hmn : m ≤ ks.length) (hn : ks.length ≤ 16) (hk : ∀ k ∈ ks, k.length = 33) : multiF (pmB m ks) = some ([m] :: ks) := by
  have hs : pmB m ks = (80 + m) :: (keyL ks ++ [80 + (ks.length : Int), 174]) := rfl
  have hkl := keyL_len hk
  have hl : (pmB m ks).length = 34 * ks.length + 3 := by rw [hs, List.length_cons, List.length_append, hkl]; rfl
  have h1 : (pmB m ks).getLast? = some 174 := by
    rw [hs, List.getLast?_cons, List.getLast?_append]; rfl
  have h2 : (pmB m ks).headD 0 = 80 + m := rfl
  have h3 : (pmB m ks).getD ((pmB m ks).length - 2) 0 = 80 + (ks.length : Int) := by
    have e : (pmB m ks).length - 2 = (keyL ks).length + 1 := by omega
    rw [List.getD_eq_getElem?_getD, e, hs, List.getElem?_cons_succ, List.getElem?_append_right (Nat.le_refl _), Nat.sub_self]
    rfl
  have h4 : ((pmB m ks).take ((pmB m ks).length - 2)).drop 1 = keyL ks := by
    have e : (pmB m ks).length - 2 = (keyL ks).length + 1 := by omega
    rw [e, hs, List.take_succ_cons, List.drop_succ_cons, List.drop_zero, List.take_left]
  have h5 : smallF (80 + m) = m := by unfold smallF; rw [if_neg (by omega), if_pos (by omega)]; omega
  have h6 : smallF (80 + (ks.length : Int)) = ks.length := by unfold smallF; rw [if_neg (by omega), if_pos (by omega)]; omega
  rw [multiF, if_neg (by rw [hl, h1]; simp), h2, h3, h4, h5, h6, Int.toNat_natCast, if_neg]
  · congr 2
    apply List.ext_getElem
    · simp
    · intro i h1 h2
      have hi : i < ks.length := by simpa using h1
      rw [List.getElem_map, List.getElem_range, piece_key i hk hi]; rfl
  · rintro (h | h | h | h)
    · omega
    · omega
    · omega
    · have : headOK (keyL ks) ks.length = true := by
        rw [headOK, List.all_eq_true]
        intro i hi
        have hi' : i < ks.length := by simpa using hi
        rw [piece_key i hk hi']; rfl
      rw [this] at h; cases h
end Go.Proofs
namespace Go.Proofs
open Go.Vc
set_option maxRecDepth 10000

/-- Bytes of one's own, wherever in a block. -/
def OwnB (w : World) (v : Value) (bs : List Int) : Prop := (v = .slice none 0 0 ∧ bs = []) ∨ ∃ g o cap cur, v = .slice (some ⟨g, o, none⟩) bs.length cap ∧ w.heap[g]? = some (.cells cur 5 (0, 0)) ∧ bs.length ≤ cap ∧ cap ≤ maxLen ∧ o + cap ≤ cur.size ∧ (cur.toList.drop o).take bs.length = bv bs
theorem OwnB.keep {S : Nat → Prop} {w w' : World} {v : Value} {bs : List Int} (h : OwnB w v bs) (k : Keep S w w') (hS : ∀ g, blk v g → ¬ S g) : OwnB w' v bs := by
  rcases h with h | ⟨g, o, cap, cur, rfl, hg, r⟩
  · exact .inl h
  · exact .inr ⟨g, o, cap, cur, rfl, k.at hg (hS g rfl), r⟩
theorem OwnB.ext {w w' : World} {v : Value} {bs : List Int} (h : OwnB w v bs) (k : Ext w w') : OwnB w' v bs := h.keep k fun _ _ h => h
theorem OwnB.type {w : World} {v : Value} {bs : List Int} (h : OwnB w v bs) {g : Nat} (hg : blk v g) : ∃ c, w.heap[g]? = some (.cells c 5 (0, 0)) := by
  rcases h with ⟨rfl, _⟩ | ⟨g', o, cap, cur, rfl, hh, _⟩
  · cases hg
  · cases hg; exact ⟨_, hh⟩
theorem OwnB.lt {w : World} {v : Value} {bs : List Int} (h : OwnB w v bs) {g : Nat} (hg : blk v g) : g < w.heap.size := by
  obtain ⟨c, hc⟩ := h.type hg
  exact (Array.getElem?_eq_some_iff.1 hc).1
theorem OwnB.rd {w : World} {v : Value} {bs : List Int} (h : OwnB w v bs) : Rd w v bs := by
  rcases h with ⟨rfl, rfl⟩ | ⟨g, o, cap, cur, rfl, hg, hn, hm, hs, ht⟩
  · exact Rd.nil w
  · refine ⟨⟨_, _, rfl, hn⟩, by omega, ?_⟩
    simp only [rdS]
    split
    · rename_i h0
      rw [List.eq_nil_of_length_eq_zero h0]; rfl
    · rw [rdN_heap, hg, Nat.mul_one, rdO_some _ _ _ _ _ (by omega)]
      congr 1
      apply Array.ext'
      rw [← ht]
      simp only [Array.toList_extract, List.extract_eq_take_drop]
      congr 1; omega
theorem Own1.b {w : World} {v : Value} {bs : List Int} (h : Own1 w v bs) : OwnB w v bs := by
  obtain ⟨hl, ⟨rfl, h0⟩ | ⟨g, cap, cur, rfl, hb, hh, hn, hm, hs, ht⟩⟩ := h
  · exact .inl ⟨rfl, List.eq_nil_of_length_eq_zero h0⟩
  · exact .inr ⟨g, 0, cap, cur, rfl, hh, hn, hm, by simp at hs ⊢; omega, by rw [List.drop_zero]; simpa using ht⟩
theorem OwnB.set {w : World} {v : Value} {bs : List Int} (h : OwnB w v bs) {i : Nat} (hi : i < bs.length) (x : Int) :
    ∃ g o c, v = .slice (some ⟨g, o, none⟩) bs.length c ∧ wr1 w g (o + i) ∧ OwnB (w.setCell ⟨g, o + i, none⟩ (.int .u8 x)) v (bs.set i x) := by
  rcases h with ⟨rfl, rfl⟩ | ⟨g, o, cap, cur, rfl, hh, hn, hm, hs, ht⟩
  · simp at hi
  · refine ⟨g, o, cap, rfl, wr1_of hh (by omega), .inr ⟨g, o, cap, cur.setIfInBounds (o + i) (.int .u8 x), ?_, heap_setCell_eq hh, ?_, hm, by rw [Array.size_setIfInBounds]; exact hs, ?_⟩⟩
    · rw [List.length_set]
    · rw [List.length_set]; exact hn
    · rw [List.length_set, Array.toList_setIfInBounds, List.drop_set, if_neg (by omega), List.take_set, Nat.add_sub_cancel_left, ht, bv_set]
theorem OwnB.out {w : World} {v : Value} {bs : List Int} (h : OwnB w v bs) {g i : Nat} (x : Value) (hi : ∀ o n c, v = .slice (some ⟨g, o, none⟩) n c → o + bs.length ≤ i) : OwnB (w.setCell ⟨g, i, none⟩ x) v bs := by
  by_cases hg : blk v g
  · rcases h with ⟨rfl, h0⟩ | ⟨g', o, cap, cur, rfl, hh, hn, hm, hs, ht⟩
    · cases hg
    · obtain rfl : g' = g := Option.some.inj hg
      have hi := hi _ _ _ rfl
      refine .inr ⟨g', o, cap, cur.setIfInBounds i x, rfl, heap_setCell_eq hh, hn, hm, by rw [Array.size_setIfInBounds]; exact hs, ?_⟩
      rw [Array.toList_setIfInBounds, List.drop_set, if_neg (by omega), List.take_set, ht, List.set_eq_of_length_le (by rw [bv_len]; omega)]
  · exact h.keep ((Keep.refl _ w).setCell (S := fun q => q = g) _ fun _ => rfl) fun q hq (e : q = g) => hg (e ▸ hq)
theorem OwnB.cut {w : World} {g o n c : Nat} {bs : List Int} (h : OwnB w (.slice (some ⟨g, o, none⟩) n c) bs) {lo hi : Nat} (h1 : lo ≤ hi) (h2 : hi ≤ n) : OwnB w (.slice (some ⟨g, o + lo, none⟩) (hi - lo) (c - lo)) ((bs.take hi).drop lo) := by
  rcases h with ⟨e, _⟩ | ⟨g', o', cap, cur, e, hh, hn, hm, hs, ht⟩
  · cases e
  · injection e with e1 e2 e3
    injection e1 with e1
    injection e1 with e4 e5
    subst e2 e3 e4 e5
    have hl : ((bs.take hi).drop lo).length = hi - lo := by rw [List.length_drop, List.length_take]; omega
    refine .inr ⟨g, o + lo, c - lo, cur, by rw [hl], hh, by omega, by omega, by omega, ?_⟩
    rw [hl, bv, List.map_drop, List.map_take]
    have : bs.map (Value.int .u8) = bv bs := rfl
    rw [this, ← ht, List.take_take, Nat.min_eq_left h2, List.drop_take, List.drop_drop]
theorem bl_of {w' : World} {bs : List Int} {v' v : Value} {m : Nat} (h1 : OwnB w' v' bs) (h : ∀ g o n c, v' = .slice (some ⟨g, o, none⟩) n c → (∃ n' c', v = .slice (some ⟨g, o, none⟩) n' c') ∨ m ≤ g) {g : Nat} (hg : blk v' g) : blk v g ∨ m ≤ g := by
  rcases h1 with ⟨rfl, _⟩ | ⟨g', o, cap, cur, rfl, _⟩
  · cases hg
  · obtain rfl : g' = g := Option.some.inj hg
    rcases h _ _ _ _ rfl with ⟨n', c', e⟩ | hb
    · left; rw [e]; rfl
    · exact .inr hb
/-- 'append' of a few bytes: where there is room, what was there stays. -/
theorem appMH {w : World} {v : Value} {bs news : List Int} {K : Value → World → Prop} (h : OwnB w v bs) (hlen : bs.length + news.length ≤ 1000000000)
    (hk : ∀ v' w', OwnB w' v' (bs ++ news) → OwnB w' v bs → Keep (blk v) w w' → (∀ g o n c, v' = .slice (some ⟨g, o, none⟩) n c → (∃ n' c', v = .slice (some ⟨g, o, none⟩) n' c') ∨ w.heap.size ≤ g) → K v' w') :
    appV 5 1 1 [.int .u8 0] v (.slice (some ⟨w.heap.size, 0, none⟩) news.length news.length) (w.alloc (.cells (bv news).toArray 5)) K := by
  have hml : maxLen = 9223372036854775807 := rfl
  have hE : Ext w (w.alloc (.cells (bv news).toArray 5)) := (Keep.refl _ w).alloc _
  have h1 := h.ext hE
  have hx : Rd (w.alloc (.cells (bv news).toArray 5)) (.slice (some ⟨w.heap.size, 0, none⟩) news.length news.length) news := (own_lit1 (w := w) (bs := news) (by omega)).rd
  have hsz : (w.alloc (.cells (bv news).toArray 5)).heap.size = w.heap.size + 1 := size_alloc _ _
  generalize w.alloc (.cells (bv news).toArray 5) = w1 at hE h1 hx hsz ⊢
  have hro := h1.rd.rd
  have hrx := hx.rd
  have hbs : (bv bs).length = bs.length := bv_len bs
  have hns : (bv news).length = news.length := bv_len news
  have grow : ∀ c', bs.length + news.length ≤ c' → c' ≤ maxLen → K (.slice (some ⟨w1.heap.size, 0, none⟩) (bs.length + news.length) c')
      (w1.drew.alloc (.cells ((bv bs).toArray.toList ++ (bv news).toArray.toList ++ zrep (c' - (bs.length + news.length)) [.int .u8 0]).toArray 5)) := by
    intro c' h2 h3
    have hE2 : Ext w1 (w1.drew.alloc (.cells ((bv bs).toArray.toList ++ (bv news).toArray.toList ++ zrep (c' - (bs.length + news.length)) [.int .u8 0]).toArray 5)) := (Keep.refl _ w1).drew.alloc _
    refine hk _ _ (.inr ⟨w1.heap.size, 0, c', _, by rw [List.length_append], heap_new w1.drew _ _ rfl, by rw [List.length_append]; exact h2, h3, ?_, ?_⟩) (h1.ext hE2) ((hE.ext hE2).mono fun _ h => h.elim) fun g o n c e => ?_
    · simp only [List.size_toArray, List.length_append, hbs, hns, length_zrep, List.length_cons, List.length_nil]
      omega
    · rw [List.length_append, List.drop_zero, bv_app]
      simp only
      rw [List.take_left' (by rw [List.length_append, hbs, hns])]
    · cases e; exact .inr (by omega)
  unfold appV
  obtain ⟨q, c, rfl, hcap⟩ := h1.rd.is
  simp only [hro, hrx, getV_some]
  refine ⟨bv_flat news, by omega, by omega, rfl, fun hc' => ⟨fun h0 => ?_, fun h0 b o' hp => ?_⟩, fun hc' h0 => ?_, fun _ => grow⟩
  · have hm0 : news = [] := List.eq_nil_of_length_eq_zero (by omega)
    subst hm0
    refine hk _ w1 ?_ h1 (hE.mono fun _ h => h.elim) fun g o n c e => ?_
    · rw [List.append_nil]; exact h1
    · injection e with e1 e2 e3
      subst e1
      exact .inl ⟨_, _, rfl⟩
  · subst hp
    rcases h1 with ⟨e, _⟩ | ⟨g, o, cap, cur, e, hg, hn, hcm, hle, htake⟩
    · cases e
    · injection e with e1 e2 e3
      injection e1 with e1
      injection e1 with e4 e5
      subst e3 e4 e5
      have hlen1 : (cur.toList.take (o' + bs.length * 1)).length = o' + bs.length := by rw [List.length_take, Array.length_toList (xs := cur)]; omega
      have hd1 : (cur.toList.take (o' + bs.length * 1)).drop o' = bv bs := by rw [List.drop_take, Nat.mul_one, Nat.add_sub_cancel_left, htake]
      have hsp : (spliceA cur (o' + bs.length * 1) (bv news).toArray).size = cur.size := by
        simp only [spliceA, List.size_toArray, List.length_append, List.length_take, List.length_drop, Array.length_toList (xs := cur), hns]
        omega
      have hdr : (spliceA cur (o' + bs.length * 1) (bv news).toArray).toList.drop o' = bv bs ++ (bv news ++ cur.toList.drop (o' + bs.length * 1 + (bv news).toArray.size)) := by
        simp only [spliceA]
        rw [List.append_assoc, List.drop_append_of_le_length (by rw [hlen1]; omega), hd1]
      refine ⟨okN_of hg (by omega), hk _ _ (.inr ⟨_, _, c, _, by rw [List.length_append], heap_putN_eq hg, by rw [List.length_append]; exact hc', hcm, by rw [hsp]; exact hle, ?_⟩) (.inr ⟨_, _, c, _, rfl, heap_putN_eq hg, hn, hcm, by rw [hsp]; exact hle, ?_⟩) ?_ fun g' o2 n2 c2 e => ?_⟩
      · rw [hdr, bv_app, ← List.append_assoc, List.take_left' (by rw [List.length_append, List.length_append, hbs, hns])]
      · rw [hdr, List.take_left' hbs]
      · exact Keep.trans (hE.mono fun _ h => h.elim) ((Keep.refl (blk (.slice (some ⟨b, o', none⟩) bs.length c)) w1).putN _ fun _ => rfl) fun _ _ h => h
      · cases e; exact .inl ⟨_, _, rfl⟩
  · rcases h1 with ⟨e, h00⟩ | ⟨g, o, cap, cur, e, _⟩
    · injection e with e1 e2 e3
      subst h00
      exfalso
      rw [List.length_nil] at hc'
      omega
    · injection e with e1
      exact ⟨_, _, e1⟩
/-- Slices of bytes, each of its own. -/
structure OwnM (w : World) (vs : List Value) (st : Nat → List Int) : Prop where
  own : ∀ j (h : j < vs.length), OwnB w vs[j] (st j)
  len : ∀ j, (st j).length ≤ 100000000
theorem OwnM.set {w : World} {vs : List Value} {st : Nat → List Int} (h : OwnM w vs st) (hd : Dist vs) {i k : Nat} (hi : i < vs.length) (hk : k < (st i).length) (x : Int) :
    ∃ g o c, vs[i] = .slice (some ⟨g, o, none⟩) (st i).length c ∧ blk vs[i] g ∧ wr1 w g (o + k) ∧ OwnM (w.setCell ⟨g, o + k, none⟩ (.int .u8 x)) vs (upd st i ((st i).set k x)) := by
  obtain ⟨g, o, c, e, h1, h2⟩ := (h.own i hi).set hk x
  have hb : blk vs[i] g := by rw [e]; rfl
  refine ⟨g, o, c, e, hb, h1, fun j hj => ?_, fun j => ?_⟩
  · by_cases hji : j = i
    · subst hji; rw [upd_at]; exact h2
    · rw [upd_ne _ _ hji]
      exact (h.own j hj).keep ((Keep.refl _ w).setCell (S := fun q => q = g) _ fun _ => rfl) fun q hq (eq : q = g) => hji (hd j i hj hi g (eq ▸ hq) hb)
  · by_cases hji : j = i
    · subst hji; rw [upd_at, List.length_set]; exact h.len j
    · rw [upd_ne _ _ hji]; exact h.len j
set_option maxHeartbeats 1600000 in
theorem apart2_ok (w : World) (q : Option Addr) (n c : Nat) (vs : List Value) (st : Nat → List Int) (hr : rdS w 1 (.slice q n c) = some vs.toArray) (hl : vs.length = n) (hn : n ≤ 1000000) (hq : ∀ a, q = some a → ¬ inL vs a.block)
    (ho : OwnM w vs st) (hd : Dist vs) :
    Calls Try.prog 25 #[.slice q n c] w (Ret fun u w' => u = .bool true ∧ Keep (inL vs) w w') := by
  refine calls_of_cfg c25_ok (Nat.le_of_ble_eq_true rfl) ?_
  simp only [argE_nil, argE_cons, Nat.reduceAdd, Nat.zero_add]
  have hrK : ∀ wz, Keep (inL vs) w wz → rdS wz 1 (.slice q n c) = some vs.toArray := fun wz hk => rdS_keep hr hk fun b hb => by
    cases q with
    | none => cases hb
    | some a => cases hb; exact hq a rfl
  have wone : ∀ i : Nat, i < 1000000000 → IntKind.i64.wrap ((i : Int) + 1) = ((i + 1 : Nat) : Int) := fun i h => wrap_i64 (by omega) (by omega)
  obtain ⟨ms, hms⟩ : ∃ ms : Nat → Nat, ∀ j, ms j = (st j).length := ⟨_, fun _ => rfl⟩
  have hmsb : ∀ j, ms j ≤ 100000000 := fun j => by rw [hms]; exact ho.len j
  -- the third loop
  have L3 : ∀ (wj : World), OwnM wj vs (fun j => apF j (ms j)) → Keep (inL vs) w wj → ∀ (k i : Nat), k + i = n → W Try.prog (Ret fun u w' => u = .bool true ∧ Keep (inL vs) w w') 25 15 [(0, .slice q n c), (7, .int .i64 i)] wj := by
    intro wj hO hK k
    induction k with
    | zero =>
      intro i hi
      have hlt : ¬ ((i : Int) < n) := by omega
      (refine W_at c25_ok ?_; refine ⟨_, rfl, ?_⟩; simp (disch := first | omega | assumption | rfl | (simp only [vcS] <;> omega) | fail) only [↓ptV_l, ↓vcA, vcB, ↓vcD, vcE, ↓reduceIte, Nat.reduceEqDiff, Nat.reduceAdd, Nat.reduceMul, Nat.reduceLeDiff, Int.reduceLE, Int.reduceLT, Int.reduceEq, Int.reduceToNat, Int.reduceAdd, Int.reduceSub, Int.reduceMul, Int.reduceNeg, reduceCtorEq, Option.bind_some, Option.map_some, List.length_cons, List.length_nil, vcM, List.getElem?_toArray, List.getElem?_cons_zero, List.getElem?_cons_succ, hlt])
      (refine W_at c25_ok ?_; refine ⟨_, rfl, ?_⟩; simp (disch := first | omega | assumption | rfl | (simp only [vcS] <;> omega) | fail) only [↓ptV_l, ↓vcA, vcB, ↓vcD, vcE, ↓reduceIte, Nat.reduceEqDiff, Nat.reduceAdd, Nat.reduceMul, Nat.reduceLeDiff, Int.reduceLE, Int.reduceLT, Int.reduceEq, Int.reduceToNat, Int.reduceAdd, Int.reduceSub, Int.reduceMul, Int.reduceNeg, reduceCtorEq, Option.bind_some, Option.map_some, List.length_cons, List.length_nil, vcM, List.getElem?_toArray, List.getElem?_cons_zero, List.getElem?_cons_succ])
      (refine W_at c25_ok ?_; refine ⟨_, rfl, ?_⟩; simp (disch := first | omega | assumption | rfl | (simp only [vcS] <;> omega) | fail) only [↓ptV_l, ↓vcA, vcB, ↓vcD, vcE, ↓reduceIte, Nat.reduceEqDiff, Nat.reduceAdd, Nat.reduceMul, Nat.reduceLeDiff, Int.reduceLE, Int.reduceLT, Int.reduceEq, Int.reduceToNat, Int.reduceAdd, Int.reduceSub, Int.reduceMul, Int.reduceNeg, reduceCtorEq, Option.bind_some, Option.map_some, List.length_cons, List.length_nil, vcM, List.getElem?_toArray, List.getElem?_cons_zero, List.getElem?_cons_succ])
      (refine W_at c25_ok ?_; refine ⟨_, rfl, ?_⟩; simp (disch := first | omega | assumption | rfl | (simp only [vcS] <;> omega) | fail) only [↓ptV_l, ↓vcA, vcB, ↓vcD, vcE, ↓reduceIte, Nat.reduceEqDiff, Nat.reduceAdd, Nat.reduceMul, Nat.reduceLeDiff, Int.reduceLE, Int.reduceLT, Int.reduceEq, Int.reduceToNat, Int.reduceAdd, Int.reduceSub, Int.reduceMul, Int.reduceNeg, reduceCtorEq, Option.bind_some, Option.map_some, List.length_cons, List.length_nil, vcM, List.getElem?_toArray, List.getElem?_cons_zero, List.getElem?_cons_succ, Ret_returned])
      exact hK
    | succ k ih =>
      intro i hi
      have hlt : (i : Int) < n := by omega
      have hi2 : 0 ≤ (i : Int) ∧ (i : Int) < n := by omega
      have hil : i < vs.length := by omega
      obtain ⟨b, o, rfl, hcell⟩ := cell_vs (hrK wj hK) hl (i := i) (by omega)
      have hwi := wone i (by omega)
      have hob := (hO.own i hil).rd
      have hle := hob.len
      rw [apF_len] at hle
      (refine W_at c25_ok ?_; refine ⟨_, rfl, ?_⟩; simp (disch := first | omega | assumption | rfl | (simp only [vcS] <;> omega) | fail) only [↓ptV_l, ↓vcA, vcB, ↓vcD, vcE, ↓reduceIte, Nat.reduceEqDiff, Nat.reduceAdd, Nat.reduceMul, Nat.reduceLeDiff, Int.reduceLE, Int.reduceLT, Int.reduceEq, Int.reduceToNat, Int.reduceAdd, Int.reduceSub, Int.reduceMul, Int.reduceNeg, reduceCtorEq, Option.bind_some, Option.map_some, List.length_cons, List.length_nil, vcM, List.getElem?_toArray, List.getElem?_cons_zero, List.getElem?_cons_succ, hlt])
      (refine W_at c25_ok ?_; refine ⟨_, rfl, ?_⟩; simp (disch := first | omega | assumption | rfl | (simp only [vcS] <;> omega) | fail) only [↓ptV_l, ↓vcA, vcB, ↓vcD, vcE, ↓reduceIte, Nat.reduceEqDiff, Nat.reduceAdd, Nat.reduceMul, Nat.reduceLeDiff, Int.reduceLE, Int.reduceLT, Int.reduceEq, Int.reduceToNat, Int.reduceAdd, Int.reduceSub, Int.reduceMul, Int.reduceNeg, reduceCtorEq, Option.bind_some, Option.map_some, List.length_cons, List.length_nil, vcM, List.getElem?_toArray, List.getElem?_cons_zero, List.getElem?_cons_succ])
      (refine W_at c25_ok ?_; refine ⟨_, rfl, ?_⟩; simp (disch := first | omega | assumption | rfl | (simp only [vcS] <;> omega) | fail) only [↓ptV_l, ↓vcA, vcB, ↓vcD, vcE, ↓reduceIte, Nat.reduceEqDiff, Nat.reduceAdd, Nat.reduceMul, Nat.reduceLeDiff, Int.reduceLE, Int.reduceLT, Int.reduceEq, Int.reduceToNat, Int.reduceAdd, Int.reduceSub, Int.reduceMul, Int.reduceNeg, reduceCtorEq, Option.bind_some, Option.map_some, List.length_cons, List.length_nil, vcM, List.getElem?_toArray, List.getElem?_cons_zero, List.getElem?_cons_succ])
      have L3i : ∀ (k t : Nat), k + t = ms i → W Try.prog (Ret fun u w' => u = .bool true ∧ Keep (inL vs) w w') 25 12 [(0, .slice (some ⟨b, o, none⟩) n c), (7, .int .i64 i), (8, .int .i64 t)] wj := by
        intro k
        induction k with
        | zero =>
          intro t ht
          have hlt2 : ¬ ((t : Int) < (ms i : Nat)) := by omega
          (refine W_at c25_ok ?_; refine ⟨_, rfl, ?_⟩; simp (disch := first | omega | assumption | rfl | (simp only [vcS] <;> omega) | fail) only [↓ptV_l, ↓vcA, vcB, ↓vcD, vcE, ↓reduceIte, Nat.reduceEqDiff, Nat.reduceAdd, Nat.reduceMul, Nat.reduceLeDiff, Int.reduceLE, Int.reduceLT, Int.reduceEq, Int.reduceToNat, Int.reduceAdd, Int.reduceSub, Int.reduceMul, Int.reduceNeg, reduceCtorEq, Option.bind_some, Option.map_some, List.length_cons, List.length_nil, vcM, List.getElem?_toArray, List.getElem?_cons_zero, List.getElem?_cons_succ, hi2, Int.toNat_natCast, Nat.mul_one, hcell, hle, hlt2])
          (refine W_at c25_ok ?_; refine ⟨_, rfl, ?_⟩; simp (disch := first | omega | assumption | rfl | (simp only [vcS] <;> omega) | fail) only [↓ptV_l, ↓vcA, vcB, ↓vcD, vcE, ↓reduceIte, Nat.reduceEqDiff, Nat.reduceAdd, Nat.reduceMul, Nat.reduceLeDiff, Int.reduceLE, Int.reduceLT, Int.reduceEq, Int.reduceToNat, Int.reduceAdd, Int.reduceSub, Int.reduceMul, Int.reduceNeg, reduceCtorEq, Option.bind_some, Option.map_some, List.length_cons, List.length_nil, vcM, List.getElem?_toArray, List.getElem?_cons_zero, List.getElem?_cons_succ])
          (refine W_at c25_ok ?_; refine ⟨_, rfl, ?_⟩; simp (disch := first | omega | assumption | rfl | (simp only [vcS] <;> omega) | fail) only [↓ptV_l, ↓vcA, vcB, ↓vcD, vcE, ↓reduceIte, Nat.reduceEqDiff, Nat.reduceAdd, Nat.reduceMul, Nat.reduceLeDiff, Int.reduceLE, Int.reduceLT, Int.reduceEq, Int.reduceToNat, Int.reduceAdd, Int.reduceSub, Int.reduceMul, Int.reduceNeg, reduceCtorEq, Option.bind_some, Option.map_some, List.length_cons, List.length_nil, vcM, List.getElem?_toArray, List.getElem?_cons_zero, List.getElem?_cons_succ, hwi])
          (refine W_at c25_ok ?_; refine ⟨_, rfl, ?_⟩; simp (disch := first | omega | assumption | rfl | (simp only [vcS] <;> omega) | fail) only [↓ptV_l, ↓vcA, vcB, ↓vcD, vcE, ↓reduceIte, Nat.reduceEqDiff, Nat.reduceAdd, Nat.reduceMul, Nat.reduceLeDiff, Int.reduceLE, Int.reduceLT, Int.reduceEq, Int.reduceToNat, Int.reduceAdd, Int.reduceSub, Int.reduceMul, Int.reduceNeg, reduceCtorEq, Option.bind_some, Option.map_some, List.length_cons, List.length_nil, vcM, List.getElem?_toArray, List.getElem?_cons_zero, List.getElem?_cons_succ])
          exact ih (i + 1) (by omega)
        | succ k ih2 =>
          intro t ht
          have hlt2 : (t : Int) < (ms i : Nat) := by omega
          have hmi := hmsb i
          have hwt := wone t (by omega)
          have htl : t < (apF i (ms i)).length := by rw [apF_len]; omega
          obtain ⟨b2, o2, c2, e2, hc2⟩ := hob.at htl
          have hat : (apF i (ms i))[t] = apB i t := by simp [apF]
          rw [hat] at hc2
          rw [apF_len] at e2
          rw [e2] at hcell
          have ht2 : 0 ≤ (t : Int) ∧ (t : Int) < (ms i : Nat) := by omega
          have hap : IntKind.u8.wrap (IntKind.i64.wrap (IntKind.i64.wrap (7 * (i : Int)) + (t : Int))) = apB i t := rfl
          (refine W_at c25_ok ?_; refine ⟨_, rfl, ?_⟩; simp (disch := first | omega | assumption | rfl | (simp only [vcS] <;> omega) | fail) only [↓ptV_l, ↓vcA, vcB, ↓vcD, vcE, ↓reduceIte, Nat.reduceEqDiff, Nat.reduceAdd, Nat.reduceMul, Nat.reduceLeDiff, Int.reduceLE, Int.reduceLT, Int.reduceEq, Int.reduceToNat, Int.reduceAdd, Int.reduceSub, Int.reduceMul, Int.reduceNeg, reduceCtorEq, Option.bind_some, Option.map_some, List.length_cons, List.length_nil, vcM, List.getElem?_toArray, List.getElem?_cons_zero, List.getElem?_cons_succ, hi2, Int.toNat_natCast, Nat.mul_one, hcell, hlt2])
          (refine W_at c25_ok ?_; refine ⟨_, rfl, ?_⟩; simp (disch := first | omega | assumption | rfl | (simp only [vcS] <;> omega) | fail) only [↓ptV_l, ↓vcA, vcB, ↓vcD, vcE, ↓reduceIte, Nat.reduceEqDiff, Nat.reduceAdd, Nat.reduceMul, Nat.reduceLeDiff, Int.reduceLE, Int.reduceLT, Int.reduceEq, Int.reduceToNat, Int.reduceAdd, Int.reduceSub, Int.reduceMul, Int.reduceNeg, reduceCtorEq, Option.bind_some, Option.map_some, List.length_cons, List.length_nil, vcM, List.getElem?_toArray, List.getElem?_cons_zero, List.getElem?_cons_succ])
          (refine W_at c25_ok ?_; refine ⟨_, rfl, ?_⟩; simp (disch := first | omega | assumption | rfl | (simp only [vcS] <;> omega) | fail) only [↓ptV_l, ↓vcA, vcB, ↓vcD, vcE, ↓reduceIte, Nat.reduceEqDiff, Nat.reduceAdd, Nat.reduceMul, Nat.reduceLeDiff, Int.reduceLE, Int.reduceLT, Int.reduceEq, Int.reduceToNat, Int.reduceAdd, Int.reduceSub, Int.reduceMul, Int.reduceNeg, reduceCtorEq, Option.bind_some, Option.map_some, List.length_cons, List.length_nil, vcM, List.getElem?_toArray, List.getElem?_cons_zero, List.getElem?_cons_succ, hi2, ht2, Int.toNat_natCast, Nat.mul_one, hcell, hc2, hap])
          (refine W_at c25_ok ?_; refine ⟨_, rfl, ?_⟩; simp (disch := first | omega | assumption | rfl | (simp only [vcS] <;> omega) | fail) only [↓ptV_l, ↓vcA, vcB, ↓vcD, vcE, ↓reduceIte, Nat.reduceEqDiff, Nat.reduceAdd, Nat.reduceMul, Nat.reduceLeDiff, Int.reduceLE, Int.reduceLT, Int.reduceEq, Int.reduceToNat, Int.reduceAdd, Int.reduceSub, Int.reduceMul, Int.reduceNeg, reduceCtorEq, Option.bind_some, Option.map_some, List.length_cons, List.length_nil, vcM, List.getElem?_toArray, List.getElem?_cons_zero, List.getElem?_cons_succ])
          (refine W_at c25_ok ?_; refine ⟨_, rfl, ?_⟩; simp (disch := first | omega | assumption | rfl | (simp only [vcS] <;> omega) | fail) only [↓ptV_l, ↓vcA, vcB, ↓vcD, vcE, ↓reduceIte, Nat.reduceEqDiff, Nat.reduceAdd, Nat.reduceMul, Nat.reduceLeDiff, Int.reduceLE, Int.reduceLT, Int.reduceEq, Int.reduceToNat, Int.reduceAdd, Int.reduceSub, Int.reduceMul, Int.reduceNeg, reduceCtorEq, Option.bind_some, Option.map_some, List.length_cons, List.length_nil, vcM, List.getElem?_toArray, List.getElem?_cons_zero, List.getElem?_cons_succ, hwt])
          (refine W_at c25_ok ?_; refine ⟨_, rfl, ?_⟩; simp (disch := first | omega | assumption | rfl | (simp only [vcS] <;> omega) | fail) only [↓ptV_l, ↓vcA, vcB, ↓vcD, vcE, ↓reduceIte, Nat.reduceEqDiff, Nat.reduceAdd, Nat.reduceMul, Nat.reduceLeDiff, Int.reduceLE, Int.reduceLT, Int.reduceEq, Int.reduceToNat, Int.reduceAdd, Int.reduceSub, Int.reduceMul, Int.reduceNeg, reduceCtorEq, Option.bind_some, Option.map_some, List.length_cons, List.length_nil, vcM, List.getElem?_toArray, List.getElem?_cons_zero, List.getElem?_cons_succ])
          exact ih2 (t + 1) (by omega)
      exact L3i (ms i) 0 (by omega)
  -- the second loop
  have L2 : ∀ (k i : Nat) (wj : World), OwnM wj vs (fun j => apF j (ms j)) → Keep (inL vs) w wj → k + i = n → W Try.prog (Ret fun u w' => u = .bool true ∧ Keep (inL vs) w w') 25 22 [(0, .slice q n c), (5, .int .i64 i)] wj := by
    intro k
    induction k with
    | zero =>
      intro i wj hO hK hi
      have hlt : ¬ ((i : Int) < n) := by omega
      (refine W_at c25_ok ?_; refine ⟨_, rfl, ?_⟩; simp (disch := first | omega | assumption | rfl | (simp only [vcS] <;> omega) | fail) only [↓ptV_l, ↓vcA, vcB, ↓vcD, vcE, ↓reduceIte, Nat.reduceEqDiff, Nat.reduceAdd, Nat.reduceMul, Nat.reduceLeDiff, Int.reduceLE, Int.reduceLT, Int.reduceEq, Int.reduceToNat, Int.reduceAdd, Int.reduceSub, Int.reduceMul, Int.reduceNeg, reduceCtorEq, Option.bind_some, Option.map_some, List.length_cons, List.length_nil, vcM, List.getElem?_toArray, List.getElem?_cons_zero, List.getElem?_cons_succ, hlt])
      (refine W_at c25_ok ?_; refine ⟨_, rfl, ?_⟩; simp (disch := first | omega | assumption | rfl | (simp only [vcS] <;> omega) | fail) only [↓ptV_l, ↓vcA, vcB, ↓vcD, vcE, ↓reduceIte, Nat.reduceEqDiff, Nat.reduceAdd, Nat.reduceMul, Nat.reduceLeDiff, Int.reduceLE, Int.reduceLT, Int.reduceEq, Int.reduceToNat, Int.reduceAdd, Int.reduceSub, Int.reduceMul, Int.reduceNeg, reduceCtorEq, Option.bind_some, Option.map_some, List.length_cons, List.length_nil, vcM, List.getElem?_toArray, List.getElem?_cons_zero, List.getElem?_cons_succ])
      (refine W_at c25_ok ?_; refine ⟨_, rfl, ?_⟩; simp (disch := first | omega | assumption | rfl | (simp only [vcS] <;> omega) | fail) only [↓ptV_l, ↓vcA, vcB, ↓vcD, vcE, ↓reduceIte, Nat.reduceEqDiff, Nat.reduceAdd, Nat.reduceMul, Nat.reduceLeDiff, Int.reduceLE, Int.reduceLT, Int.reduceEq, Int.reduceToNat, Int.reduceAdd, Int.reduceSub, Int.reduceMul, Int.reduceNeg, reduceCtorEq, Option.bind_some, Option.map_some, List.length_cons, List.length_nil, vcM, List.getElem?_toArray, List.getElem?_cons_zero, List.getElem?_cons_succ])
      exact L3 wj hO hK n 0 (by omega)
    | succ k ih =>
      intro i wj hO hK hi
      have hlt : (i : Int) < n := by omega
      have hi2 : 0 ≤ (i : Int) ∧ (i : Int) < n := by omega
      have hil : i < vs.length := by omega
      obtain ⟨b, o, rfl, hcell⟩ := cell_vs (hrK wj hK) hl (i := i) (by omega)
      have hwi := wone i (by omega)
      have hob := hO.own i hil
      have hmi := hmsb i
      (refine W_at c25_ok ?_; refine ⟨_, rfl, ?_⟩; simp (disch := first | omega | assumption | rfl | (simp only [vcS] <;> omega) | fail) only [↓ptV_l, ↓vcA, vcB, ↓vcD, vcE, ↓reduceIte, Nat.reduceEqDiff, Nat.reduceAdd, Nat.reduceMul, Nat.reduceLeDiff, Int.reduceLE, Int.reduceLT, Int.reduceEq, Int.reduceToNat, Int.reduceAdd, Int.reduceSub, Int.reduceMul, Int.reduceNeg, reduceCtorEq, Option.bind_some, Option.map_some, List.length_cons, List.length_nil, vcM, List.getElem?_toArray, List.getElem?_cons_zero, List.getElem?_cons_succ, hlt])
      (refine W_at c25_ok ?_; refine ⟨_, rfl, ?_⟩; simp (disch := first | omega | assumption | rfl | (simp only [vcS] <;> omega) | fail) only [↓ptV_l, ↓vcA, vcB, ↓vcD, vcE, ↓reduceIte, Nat.reduceEqDiff, Nat.reduceAdd, Nat.reduceMul, Nat.reduceLeDiff, Int.reduceLE, Int.reduceLT, Int.reduceEq, Int.reduceToNat, Int.reduceAdd, Int.reduceSub, Int.reduceMul, Int.reduceNeg, reduceCtorEq, Option.bind_some, Option.map_some, List.length_cons, List.length_nil, vcM, List.getElem?_toArray, List.getElem?_cons_zero, List.getElem?_cons_succ])
      (refine W_at c25_ok ?_; refine ⟨_, rfl, ?_⟩; simp (disch := first | omega | assumption | rfl | (simp only [vcS] <;> omega) | fail) only [↓ptV_l, ↓vcA, vcB, ↓vcD, vcE, ↓reduceIte, Nat.reduceEqDiff, Nat.reduceAdd, Nat.reduceMul, Nat.reduceLeDiff, Int.reduceLE, Int.reduceLT, Int.reduceEq, Int.reduceToNat, Int.reduceAdd, Int.reduceSub, Int.reduceMul, Int.reduceNeg, reduceCtorEq, Option.bind_some, Option.map_some, List.length_cons, List.length_nil, vcM, List.getElem?_toArray, List.getElem?_cons_zero, List.getElem?_cons_succ, hi2, Int.toNat_natCast, Nat.mul_one, hcell])
      refine appMH (bs := apF i (ms i)) (news := [99, 98, 97]) hob (by rw [apF_len]; simp; omega) fun v' wz h1 h2 h3 h5 => ?_
      have h4 : ∀ g, blk v' g → blk vs[i] g ∨ wj.heap.size ≤ g := fun g hg => bl_of h1 h5 hg
      have hlz := h1.rd.len
      have hl3 : (apF i (ms i) ++ [99, 98, 97]).length = ms i + 3 := by rw [List.length_append, apF_len]; rfl
      rw [hl3] at hlz
      have hw1 : IntKind.i64.wrap (((ms i + 3 : Nat) : Int) - 1) = ((ms i + 2 : Nat) : Int) := by rw [wrap_i64 (by omega) (by omega)]; omega
      have hi3 : 0 ≤ ((ms i + 2 : Nat) : Int) ∧ ((ms i + 2 : Nat) : Int) < ((ms i + 3 : Nat) : Int) := by omega
      obtain ⟨g, og, cg, e2, hwr, _⟩ := h1.set (i := ms i + 2) (by omega) 96
      rw [hl3] at e2
      have hbg : blk v' g := by rw [e2]; rfl
      have hK3 : Keep (inL vs) w wz := hK.trans h3 fun j hj hb => ⟨i, hil, hb⟩
      have hK4 : Keep (inL vs) w (wz.setCell ⟨g, og + (ms i + 2), none⟩ (.int .u8 96)) := hK3.setCell _ fun hlt => by
        rcases h4 g hbg with hb | hb
        · exact ⟨i, hil, hb⟩
        · have := hK.size; omega
      have hO4 : OwnM (wz.setCell ⟨g, og + (ms i + 2), none⟩ (.int .u8 96)) vs (fun j => apF j (ms j)) := by
        refine ⟨fun j hj => ?_, fun j => hO.len j⟩
        by_cases hji : j = i
        · subst hji
          exact h2.out _ (fun o' n' c' e => by
            rcases h5 g og _ _ e2 with ⟨n2, c2, e3⟩ | hb
            · rw [e3] at e; cases e; rw [apF_len]; omega
            · exfalso; have := hob.lt (g := g) (by rw [e]; rfl); omega)
        · have hnb : ∀ q, blk vs[j] q → ¬ blk vs[i] q := fun q hq hq2 => hji (hd j i hj hil q hq hq2)
          have hoj := (hO.own j hj)
          refine ((hoj.keep h3 hnb)).keep ((Keep.refl _ wz).setCell (S := fun q => q = g) _ fun _ => rfl) fun q hq (eq : q = g) => ?_
          subst eq
          rcases h4 q hbg with hb | hb
          · exact hnb q hq hb
          · have := hoj.lt hq; omega
      (refine W_at c25_ok ?_; refine ⟨_, rfl, ?_⟩; simp (disch := first | omega | assumption | rfl | (simp only [vcS] <;> omega) | fail) only [↓ptV_l, ↓vcA, vcB, ↓vcD, vcE, ↓reduceIte, Nat.reduceEqDiff, Nat.reduceAdd, Nat.reduceMul, Nat.reduceLeDiff, Int.reduceLE, Int.reduceLT, Int.reduceEq, Int.reduceToNat, Int.reduceAdd, Int.reduceSub, Int.reduceMul, Int.reduceNeg, reduceCtorEq, Option.bind_some, Option.map_some, List.length_cons, List.length_nil, vcM, List.getElem?_toArray, List.getElem?_cons_zero, List.getElem?_cons_succ, hlz, hw1, e2, hi3, Int.toNat_natCast, Nat.mul_one, Nat.zero_add])
      refine ⟨hwr, ?_⟩
      generalize World.setCell _ _ _ = w9 at hO4 hK4 ⊢
      (refine W_at c25_ok ?_; refine ⟨_, rfl, ?_⟩; simp (disch := first | omega | assumption | rfl | (simp only [vcS] <;> omega) | fail) only [↓ptV_l, ↓vcA, vcB, ↓vcD, vcE, ↓reduceIte, Nat.reduceEqDiff, Nat.reduceAdd, Nat.reduceMul, Nat.reduceLeDiff, Int.reduceLE, Int.reduceLT, Int.reduceEq, Int.reduceToNat, Int.reduceAdd, Int.reduceSub, Int.reduceMul, Int.reduceNeg, reduceCtorEq, Option.bind_some, Option.map_some, List.length_cons, List.length_nil, vcM, List.getElem?_toArray, List.getElem?_cons_zero, List.getElem?_cons_succ, hwi])
      (refine W_at c25_ok ?_; refine ⟨_, rfl, ?_⟩; simp (disch := first | omega | assumption | rfl | (simp only [vcS] <;> omega) | fail) only [↓ptV_l, ↓vcA, vcB, ↓vcD, vcE, ↓reduceIte, Nat.reduceEqDiff, Nat.reduceAdd, Nat.reduceMul, Nat.reduceLeDiff, Int.reduceLE, Int.reduceLT, Int.reduceEq, Int.reduceToNat, Int.reduceAdd, Int.reduceSub, Int.reduceMul, Int.reduceNeg, reduceCtorEq, Option.bind_some, Option.map_some, List.length_cons, List.length_nil, vcM, List.getElem?_toArray, List.getElem?_cons_zero, List.getElem?_cons_succ])
      exact ih (i + 1) w9 hO4 hK4 (by omega)
  -- the first loop
  have L1 : ∀ (k i : Nat) (wj : World), OwnM wj vs (fun j => if j < i then apF j (ms j) else st j) → Keep (inL vs) w wj → k + i = n → W Try.prog (Ret fun u w' => u = .bool true ∧ Keep (inL vs) w w') 25 33 [(0, .slice q n c), (3, .int .i64 i)] wj := by
    intro k
    induction k with
    | zero =>
      intro i wj hO hK hi
      have hlt : ¬ ((i : Int) < n) := by omega
      (refine W_at c25_ok ?_; refine ⟨_, rfl, ?_⟩; simp (disch := first | omega | assumption | rfl | (simp only [vcS] <;> omega) | fail) only [↓ptV_l, ↓vcA, vcB, ↓vcD, vcE, ↓reduceIte, Nat.reduceEqDiff, Nat.reduceAdd, Nat.reduceMul, Nat.reduceLeDiff, Int.reduceLE, Int.reduceLT, Int.reduceEq, Int.reduceToNat, Int.reduceAdd, Int.reduceSub, Int.reduceMul, Int.reduceNeg, reduceCtorEq, Option.bind_some, Option.map_some, List.length_cons, List.length_nil, vcM, List.getElem?_toArray, List.getElem?_cons_zero, List.getElem?_cons_succ, hlt])
      (refine W_at c25_ok ?_; refine ⟨_, rfl, ?_⟩; simp (disch := first | omega | assumption | rfl | (simp only [vcS] <;> omega) | fail) only [↓ptV_l, ↓vcA, vcB, ↓vcD, vcE, ↓reduceIte, Nat.reduceEqDiff, Nat.reduceAdd, Nat.reduceMul, Nat.reduceLeDiff, Int.reduceLE, Int.reduceLT, Int.reduceEq, Int.reduceToNat, Int.reduceAdd, Int.reduceSub, Int.reduceMul, Int.reduceNeg, reduceCtorEq, Option.bind_some, Option.map_some, List.length_cons, List.length_nil, vcM, List.getElem?_toArray, List.getElem?_cons_zero, List.getElem?_cons_succ])
      (refine W_at c25_ok ?_; refine ⟨_, rfl, ?_⟩; simp (disch := first | omega | assumption | rfl | (simp only [vcS] <;> omega) | fail) only [↓ptV_l, ↓vcA, vcB, ↓vcD, vcE, ↓reduceIte, Nat.reduceEqDiff, Nat.reduceAdd, Nat.reduceMul, Nat.reduceLeDiff, Int.reduceLE, Int.reduceLT, Int.reduceEq, Int.reduceToNat, Int.reduceAdd, Int.reduceSub, Int.reduceMul, Int.reduceNeg, reduceCtorEq, Option.bind_some, Option.map_some, List.length_cons, List.length_nil, vcM, List.getElem?_toArray, List.getElem?_cons_zero, List.getElem?_cons_succ])
      refine L2 n 0 wj ⟨fun j hj => ?_, fun j => by rw [apF_len]; exact hmsb j⟩ hK (by omega)
      have := hO.own j hj
      rw [if_pos (by omega)] at this
      exact this
    | succ k ih =>
      intro i wj hO hK hi
      have hlt : (i : Int) < n := by omega
      have hi2 : 0 ≤ (i : Int) ∧ (i : Int) < n := by omega
      have hil : i < vs.length := by omega
      have hwi := wone i (by omega)
      have hmi := hmsb i
      (refine W_at c25_ok ?_; refine ⟨_, rfl, ?_⟩; simp (disch := first | omega | assumption | rfl | (simp only [vcS] <;> omega) | fail) only [↓ptV_l, ↓vcA, vcB, ↓vcD, vcE, ↓reduceIte, Nat.reduceEqDiff, Nat.reduceAdd, Nat.reduceMul, Nat.reduceLeDiff, Int.reduceLE, Int.reduceLT, Int.reduceEq, Int.reduceToNat, Int.reduceAdd, Int.reduceSub, Int.reduceMul, Int.reduceNeg, reduceCtorEq, Option.bind_some, Option.map_some, List.length_cons, List.length_nil, vcM, List.getElem?_toArray, List.getElem?_cons_zero, List.getElem?_cons_succ, hlt])
      (refine W_at c25_ok ?_; refine ⟨_, rfl, ?_⟩; simp (disch := first | omega | assumption | rfl | (simp only [vcS] <;> omega) | fail) only [↓ptV_l, ↓vcA, vcB, ↓vcD, vcE, ↓reduceIte, Nat.reduceEqDiff, Nat.reduceAdd, Nat.reduceMul, Nat.reduceLeDiff, Int.reduceLE, Int.reduceLT, Int.reduceEq, Int.reduceToNat, Int.reduceAdd, Int.reduceSub, Int.reduceMul, Int.reduceNeg, reduceCtorEq, Option.bind_some, Option.map_some, List.length_cons, List.length_nil, vcM, List.getElem?_toArray, List.getElem?_cons_zero, List.getElem?_cons_succ])
      (refine W_at c25_ok ?_; refine ⟨_, rfl, ?_⟩; simp (disch := first | omega | assumption | rfl | (simp only [vcS] <;> omega) | fail) only [↓ptV_l, ↓vcA, vcB, ↓vcD, vcE, ↓reduceIte, Nat.reduceEqDiff, Nat.reduceAdd, Nat.reduceMul, Nat.reduceLeDiff, Int.reduceLE, Int.reduceLT, Int.reduceEq, Int.reduceToNat, Int.reduceAdd, Int.reduceSub, Int.reduceMul, Int.reduceNeg, reduceCtorEq, Option.bind_some, Option.map_some, List.length_cons, List.length_nil, vcM, List.getElem?_toArray, List.getElem?_cons_zero, List.getElem?_cons_succ])
      have L1i : ∀ (k t : Nat) (wz : World) (rest : List Int), k + t = ms i → rest.length = k → OwnM wz vs (upd (fun j => if j < i then apF j (ms j) else st j) i (apF i t ++ rest)) → Keep (inL vs) w wz → W Try.prog (Ret fun u w' => u = .bool true ∧ Keep (inL vs) w w') 25 30 [(0, .slice q n c), (3, .int .i64 i), (4, .int .i64 t)] wz := by
        intro k
        induction k with
        | zero =>
          intro t wz rest ht hrl hO hK
          obtain rfl : rest = [] := List.eq_nil_of_length_eq_zero hrl
          obtain rfl : t = ms i := by omega
          rw [List.append_nil] at hO
          have hle := (hO.own i hil).rd.len
          rw [upd_at, apF_len] at hle
          obtain ⟨b, o, rfl, hcell⟩ := cell_vs (hrK wz hK) hl (i := i) (by omega)
          have hlt2 : ¬ (((ms i : Nat) : Int) < (ms i : Nat)) := by omega
          (refine W_at c25_ok ?_; refine ⟨_, rfl, ?_⟩; simp (disch := first | omega | assumption | rfl | (simp only [vcS] <;> omega) | fail) only [↓ptV_l, ↓vcA, vcB, ↓vcD, vcE, ↓reduceIte, Nat.reduceEqDiff, Nat.reduceAdd, Nat.reduceMul, Nat.reduceLeDiff, Int.reduceLE, Int.reduceLT, Int.reduceEq, Int.reduceToNat, Int.reduceAdd, Int.reduceSub, Int.reduceMul, Int.reduceNeg, reduceCtorEq, Option.bind_some, Option.map_some, List.length_cons, List.length_nil, vcM, List.getElem?_toArray, List.getElem?_cons_zero, List.getElem?_cons_succ, hi2, Int.toNat_natCast, Nat.mul_one, hcell, hle, hlt2])
          (refine W_at c25_ok ?_; refine ⟨_, rfl, ?_⟩; simp (disch := first | omega | assumption | rfl | (simp only [vcS] <;> omega) | fail) only [↓ptV_l, ↓vcA, vcB, ↓vcD, vcE, ↓reduceIte, Nat.reduceEqDiff, Nat.reduceAdd, Nat.reduceMul, Nat.reduceLeDiff, Int.reduceLE, Int.reduceLT, Int.reduceEq, Int.reduceToNat, Int.reduceAdd, Int.reduceSub, Int.reduceMul, Int.reduceNeg, reduceCtorEq, Option.bind_some, Option.map_some, List.length_cons, List.length_nil, vcM, List.getElem?_toArray, List.getElem?_cons_zero, List.getElem?_cons_succ])
          (refine W_at c25_ok ?_; refine ⟨_, rfl, ?_⟩; simp (disch := first | omega | assumption | rfl | (simp only [vcS] <;> omega) | fail) only [↓ptV_l, ↓vcA, vcB, ↓vcD, vcE, ↓reduceIte, Nat.reduceEqDiff, Nat.reduceAdd, Nat.reduceMul, Nat.reduceLeDiff, Int.reduceLE, Int.reduceLT, Int.reduceEq, Int.reduceToNat, Int.reduceAdd, Int.reduceSub, Int.reduceMul, Int.reduceNeg, reduceCtorEq, Option.bind_some, Option.map_some, List.length_cons, List.length_nil, vcM, List.getElem?_toArray, List.getElem?_cons_zero, List.getElem?_cons_succ, hwi])
          (refine W_at c25_ok ?_; refine ⟨_, rfl, ?_⟩; simp (disch := first | omega | assumption | rfl | (simp only [vcS] <;> omega) | fail) only [↓ptV_l, ↓vcA, vcB, ↓vcD, vcE, ↓reduceIte, Nat.reduceEqDiff, Nat.reduceAdd, Nat.reduceMul, Nat.reduceLeDiff, Int.reduceLE, Int.reduceLT, Int.reduceEq, Int.reduceToNat, Int.reduceAdd, Int.reduceSub, Int.reduceMul, Int.reduceNeg, reduceCtorEq, Option.bind_some, Option.map_some, List.length_cons, List.length_nil, vcM, List.getElem?_toArray, List.getElem?_cons_zero, List.getElem?_cons_succ])
          refine ih (i + 1) wz ⟨fun j hj => ?_, fun j => ?_⟩ hK (by omega)
          · have := hO.own j hj
            by_cases hji : j = i
            · subst hji; rw [upd_at] at this; rw [if_pos (by omega)]; exact this
            · rw [upd_ne _ _ hji] at this
              by_cases hjl : j < i
              · rw [if_pos hjl] at this; rw [if_pos (by omega)]; exact this
              · rw [if_neg hjl] at this; rw [if_neg (by omega)]; exact this
          · split
            · rw [apF_len]; exact hmsb j
            · rw [← hms]; exact hmsb j
        | succ k ih2 =>
          intro t wz rest ht hrl hO hK
          obtain ⟨y, rest, rfl⟩ : ∃ y r', rest = y :: r' := by
            cases rest with
            | nil => simp at hrl
            | cons y r' => exact ⟨y, r', rfl⟩
          have hlt2 : (t : Int) < (ms i : Nat) := by omega
          have hwt := wone t (by omega)
          have hll : (upd (fun j => if j < i then apF j (ms j) else st j) i (apF i t ++ y :: rest) i).length = ms i := by rw [upd_at, List.length_append, apF_len, hrl]; omega
          have hle := (hO.own i hil).rd.len
          rw [hll] at hle
          obtain ⟨b, o, rfl, hcell⟩ := cell_vs (hrK wz hK) hl (i := i) (by omega)
          obtain ⟨g, og, cg, e2, hbg, hw1, hO2⟩ := hO.set hd hil (k := t) (by rw [hll]; omega) (apB i t)
          rw [hll] at e2
          have hset : (upd (fun j => if j < i then apF j (ms j) else st j) i (apF i t ++ y :: rest) i).set t (apB i t) = apF i (t + 1) ++ rest := by
            have := set_mid (apF i t) rest (apB i t) y
            rw [apF_len] at this
            rw [upd_at, this, apF_succ, List.append_assoc]; rfl
          rw [hset] at hO2
          have hO3 : OwnM (wz.setCell ⟨g, og + t, none⟩ (.int .u8 (apB i t))) vs (upd (fun j => if j < i then apF j (ms j) else st j) i (apF i (t + 1) ++ rest)) := by
            refine ⟨fun j hj => ?_, fun j => ?_⟩
            · have := hO2.own j hj
              by_cases hji : j = i
              · subst hji; rw [upd_at] at this ⊢; exact this
              · rw [upd_ne _ _ hji] at this ⊢; rw [upd_ne _ _ hji] at this; exact this
            · have := hO2.len j
              by_cases hji : j = i
              · subst hji; rw [upd_at] at this ⊢; exact this
              · rw [upd_ne _ _ hji] at this ⊢; rw [upd_ne _ _ hji] at this; exact this
          have hK3 : Keep (inL vs) w (wz.setCell ⟨g, og + t, none⟩ (.int .u8 (apB i t))) := hK.setCell _ fun _ => ⟨i, hil, hbg⟩
          have ht2 : 0 ≤ (t : Int) ∧ (t : Int) < (ms i : Nat) := by omega
          have hap : IntKind.u8.wrap (IntKind.i64.wrap (IntKind.i64.wrap (7 * (i : Int)) + (t : Int))) = apB i t := rfl
          rw [e2] at hcell
          (refine W_at c25_ok ?_; refine ⟨_, rfl, ?_⟩; simp (disch := first | omega | assumption | rfl | (simp only [vcS] <;> omega) | fail) only [↓ptV_l, ↓vcA, vcB, ↓vcD, vcE, ↓reduceIte, Nat.reduceEqDiff, Nat.reduceAdd, Nat.reduceMul, Nat.reduceLeDiff, Int.reduceLE, Int.reduceLT, Int.reduceEq, Int.reduceToNat, Int.reduceAdd, Int.reduceSub, Int.reduceMul, Int.reduceNeg, reduceCtorEq, Option.bind_some, Option.map_some, List.length_cons, List.length_nil, vcM, List.getElem?_toArray, List.getElem?_cons_zero, List.getElem?_cons_succ, hi2, Int.toNat_natCast, Nat.mul_one, hcell, hlt2])
          (refine W_at c25_ok ?_; refine ⟨_, rfl, ?_⟩; simp (disch := first | omega | assumption | rfl | (simp only [vcS] <;> omega) | fail) only [↓ptV_l, ↓vcA, vcB, ↓vcD, vcE, ↓reduceIte, Nat.reduceEqDiff, Nat.reduceAdd, Nat.reduceMul, Nat.reduceLeDiff, Int.reduceLE, Int.reduceLT, Int.reduceEq, Int.reduceToNat, Int.reduceAdd, Int.reduceSub, Int.reduceMul, Int.reduceNeg, reduceCtorEq, Option.bind_some, Option.map_some, List.length_cons, List.length_nil, vcM, List.getElem?_toArray, List.getElem?_cons_zero, List.getElem?_cons_succ])
          (refine W_at c25_ok ?_; refine ⟨_, rfl, ?_⟩; simp (disch := first | omega | assumption | rfl | (simp only [vcS] <;> omega) | fail) only [↓ptV_l, ↓vcA, vcB, ↓vcD, vcE, ↓reduceIte, Nat.reduceEqDiff, Nat.reduceAdd, Nat.reduceMul, Nat.reduceLeDiff, Int.reduceLE, Int.reduceLT, Int.reduceEq, Int.reduceToNat, Int.reduceAdd, Int.reduceSub, Int.reduceMul, Int.reduceNeg, reduceCtorEq, Option.bind_some, Option.map_some, List.length_cons, List.length_nil, vcM, List.getElem?_toArray, List.getElem?_cons_zero, List.getElem?_cons_succ, hi2, ht2, Int.toNat_natCast, Nat.mul_one, Nat.zero_add, hcell, hap])
          refine ⟨hw1, ?_⟩
          generalize World.setCell _ _ _ = w9 at hO3 hK3 ⊢
          (refine W_at c25_ok ?_; refine ⟨_, rfl, ?_⟩; simp (disch := first | omega | assumption | rfl | (simp only [vcS] <;> omega) | fail) only [↓ptV_l, ↓vcA, vcB, ↓vcD, vcE, ↓reduceIte, Nat.reduceEqDiff, Nat.reduceAdd, Nat.reduceMul, Nat.reduceLeDiff, Int.reduceLE, Int.reduceLT, Int.reduceEq, Int.reduceToNat, Int.reduceAdd, Int.reduceSub, Int.reduceMul, Int.reduceNeg, reduceCtorEq, Option.bind_some, Option.map_some, List.length_cons, List.length_nil, vcM, List.getElem?_toArray, List.getElem?_cons_zero, List.getElem?_cons_succ, hwt])
          (refine W_at c25_ok ?_; refine ⟨_, rfl, ?_⟩; simp (disch := first | omega | assumption | rfl | (simp only [vcS] <;> omega) | fail) only [↓ptV_l, ↓vcA, vcB, ↓vcD, vcE, ↓reduceIte, Nat.reduceEqDiff, Nat.reduceAdd, Nat.reduceMul, Nat.reduceLeDiff, Int.reduceLE, Int.reduceLT, Int.reduceEq, Int.reduceToNat, Int.reduceAdd, Int.reduceSub, Int.reduceMul, Int.reduceNeg, reduceCtorEq, Option.bind_some, Option.map_some, List.length_cons, List.length_nil, vcM, List.getElem?_toArray, List.getElem?_cons_zero, List.getElem?_cons_succ])
          exact ih2 (t + 1) w9 rest (by omega) (by rw [List.length_cons] at hrl; omega) hO3 hK3
      refine L1i (ms i) 0 wj (st i) (by omega) (hms i).symm ⟨fun j hj => ?_, fun j => ?_⟩ hK
      · have := hO.own j hj
        by_cases hji : j = i
        · subst hji; rw [upd_at]; rw [if_neg (by omega)] at this; exact this
        · rw [upd_ne _ _ hji]; exact this
      · by_cases hji : j = i
        · subst hji; rw [upd_at]; exact ho.len j
        · rw [upd_ne _ _ hji]; exact hO.len j
  (refine W_at c25_ok ?_; refine ⟨_, rfl, ?_⟩; simp (disch := first | omega | assumption | rfl | (simp only [vcS] <;> omega) | fail) only [↓ptV_l, ↓vcA, vcB, ↓vcD, vcE, ↓reduceIte, Nat.reduceEqDiff, Nat.reduceAdd, Nat.reduceMul, Nat.reduceLeDiff, Int.reduceLE, Int.reduceLT, Int.reduceEq, Int.reduceToNat, Int.reduceAdd, Int.reduceSub, Int.reduceMul, Int.reduceNeg, reduceCtorEq, Option.bind_some, Option.map_some, List.length_cons, List.length_nil, vcM, List.getElem?_toArray, List.getElem?_cons_zero, List.getElem?_cons_succ])
  (refine W_at c25_ok ?_; refine ⟨_, rfl, ?_⟩; simp (disch := first | omega | assumption | rfl | (simp only [vcS] <;> omega) | fail) only [↓ptV_l, ↓vcA, vcB, ↓vcD, vcE, ↓reduceIte, Nat.reduceEqDiff, Nat.reduceAdd, Nat.reduceMul, Nat.reduceLeDiff, Int.reduceLE, Int.reduceLT, Int.reduceEq, Int.reduceToNat, Int.reduceAdd, Int.reduceSub, Int.reduceMul, Int.reduceNeg, reduceCtorEq, Option.bind_some, Option.map_some, List.length_cons, List.length_nil, vcM, List.getElem?_toArray, List.getElem?_cons_zero, List.getElem?_cons_succ])
  refine L1 n 0 w ⟨fun j hj => ?_, fun j => ?_⟩ (Keep.refl _ w) (by omega)
  · rw [if_neg (by omega)]; exact ho.own j hj
  · rw [if_neg (by omega)]; exact ho.len j
end Go.Proofs
namespace Go.Proofs
open Go.Vc
set_option maxRecDepth 10000

theorem op_cons {s : List Int} {o : OE} {os : List OE} (hb : byt s) (h : parse s = some (o :: os)) : ∃ rest, opR s = .ok (o, rest) ∧ parse rest = some os ∧ byt rest := by
  cases s with
  | nil => rw [parse_nil] at h; cases h
  | cons c t =>
    cases hr : opR (c :: t) with
    | error k => rw [parse_err (by simp) hr] at h; cases h
    | ok p =>
      obtain ⟨o', rest⟩ := p
      rw [parse_ok hb hr] at h
      obtain ⟨j, hj, hrr, _⟩ := opR_drop hb hr
      cases hp : parse rest with
      | none => rw [hp] at h; cases h
      | some l => rw [hp] at h; cases h; exact ⟨rest, rfl, hp, by rw [hrr]; exact byt_drop hb j⟩
theorem op_nil {s : List Int} (hb : byt s) (h : parse s = some []) : s = [] := by
  cases s with
  | nil => rfl
  | cons c t =>
    exfalso
    cases hr : opR (c :: t) with
    | error k => rw [parse_err (by simp) hr] at h; cases h
    | ok p =>
      obtain ⟨o', rest⟩ := p
      rw [parse_ok hb hr] at h
      cases hp : parse rest with
      | none => rw [hp] at h; cases h
      | some l => rw [hp] at h; cases h
theorem op_big' {c : Int} {t : List Int} (hc : 78 < c) : opR (c :: t) = .ok ((c, []), t) := by
  have hs : sizeN c t = .ok (0, t) := by rw [sizeN, if_neg (by omega), if_neg (by omega), if_neg (by omega), if_neg (by omega)]
  have hr : rawR 0 t = .ok ([], t) := by rw [rawR, if_pos (by simp)]; rfl
  rw [opR, hs]
  simp only
  rw [hr]
theorem op_33' {d rest : List Int} (hd : d.length = 33) : opR (33 :: (d ++ rest)) = .ok ((33, d), rest) := by
  have hs : sizeN 33 (d ++ rest) = .ok (33, d ++ rest) := by rw [sizeN, if_pos (by omega)]
  have hr : rawR 33 (d ++ rest) = .ok (d, rest) := by
    have e : (33 : Int).toNat = 33 := rfl
    rw [rawR, e, if_pos (by rw [List.length_append]; omega), List.take_left' hd, List.drop_left' hd]
  rw [opR, hs]
  simp only
  rw [hr]
theorem op_big {c : Int} {d rest s : List Int} (hb : byt s) (h : opR s = .ok ((c, d), rest)) (hc : 78 < c) : s = c :: rest ∧ d = [] := by
  obtain ⟨_, _, _, _, _, _, hh⟩ := opR_drop hb h
  cases s with
  | nil => cases hh
  | cons x t =>
    obtain rfl : x = c := Option.some.inj hh
    rw [op_big' hc] at h
    cases h
    exact ⟨rfl, rfl⟩
theorem op_33 {d rest s : List Int} (hb : byt s) (h : opR s = .ok ((33, d), rest)) : s = 33 :: (d ++ rest) ∧ d.length = 33 := by
  obtain ⟨_, _, _, _, _, _, hh⟩ := opR_drop hb h
  cases s with
  | nil => cases hh
  | cons x t =>
    obtain rfl : x = 33 := Option.some.inj hh
    have hs : sizeN 33 t = .ok (33, t) := by rw [sizeN, if_pos (by omega)]
    have e : (33 : Int).toNat = 33 := rfl
    rw [opR, hs] at h
    simp only at h
    by_cases hl : 33 ≤ t.length
    · have hr : rawR 33 t = .ok (t.take 33, t.drop 33) := by rw [rawR, e, if_pos hl]
      rw [hr] at h
      cases h
      exact ⟨by rw [List.take_append_drop], by rw [List.length_take]; omega⟩
    · have hr : rawR 33 t = .error 4 := by rw [rawR, e, if_neg hl]
      rw [hr] at h
      cases h
theorem keys_of : ∀ (os : List OE) (s : List Int) (tl : List OE), byt s → parse s = some (os ++ tl) → (∀ o ∈ os, o.1 = 33) → ∃ rest, s = keyL (os.map (·.2)) ++ rest ∧ parse rest = some tl ∧ byt rest ∧ ∀ k ∈ os.map (·.2), k.length = 33
  | [], s, tl, hb, h, _ => ⟨s, rfl, h, hb, fun k hk => (by cases hk)⟩
  | o :: os, s, tl, hb, h, ho => by
    obtain ⟨rest, h1, h2, h3⟩ := op_cons hb h
    obtain ⟨c, d⟩ := o
    obtain rfl : c = 33 := ho (c, d) (by simp)
    obtain ⟨rfl, h4⟩ := op_33 hb h1
    obtain ⟨rest2, rfl, h5, h6, h7⟩ := keys_of os rest tl h3 h2 fun o h => ho o (by simp [h])
    refine ⟨rest2, ?_, h5, h6, fun k hk => ?_⟩
    · simp [keyL]
    · rcases List.mem_cons.1 hk with rfl | hk
      · exact h4
      · exact h7 k hk
theorem parse_keys : ∀ (ks : List (List Int)) (rest : List Int), (∀ k ∈ ks, k.length = 33) → byt (keyL ks ++ rest) → parse (keyL ks ++ rest) = (parse rest).map (ks.map (fun k => ((33, k) : OE)) ++ ·)
  | [], rest, _, _ => by simp [keyL]
  | k :: ks, rest, h, hb => by
    have e : keyL (k :: ks) ++ rest = 33 :: (k ++ (keyL ks ++ rest)) := by simp [keyL]
    rw [e] at hb ⊢
    rw [parse_ok hb (op_33' (h k (by simp)))]
    have hb2 : byt (keyL ks ++ rest) := fun b hx => hb b (by simp at hx ⊢; rcases hx with hx | hx <;> simp [hx])
    rw [parse_keys ks rest (fun k hk => h k (by simp [hk])) hb2]
    cases parse rest <;> rfl
theorem parse_pm {m : Int} {ks : List (List Int)} (hm : 1 ≤ m) (hn : 1 ≤ ks.length) (hk : ∀ k ∈ ks, k.length = 33) (hb : byt (pmB m ks)) : parse (pmB m ks) = some ((80 + m, []) :: (ks.map (fun k => ((33, k) : OE)) ++ [(80 + (ks.length : Int), []), (174, [])])) := by
  have e : pmB m ks = (80 + m) :: (keyL ks ++ [80 + (ks.length : Int), 174]) := rfl
  rw [e] at hb ⊢
  have hb2 : byt (keyL ks ++ [80 + (ks.length : Int), 174]) := fun b h => hb b (List.mem_cons_of_mem _ h)
  have hb3 : byt [80 + (ks.length : Int), 174] := fun b h => hb2 b (List.mem_append_right _ h)
  have hb4 : byt [174] := fun b h => hb3 b (List.mem_cons_of_mem _ h)
  rw [parse_ok hb (op_big' (by omega)), parse_keys _ _ hk hb2, parse_ok hb3 (op_big' (by omega)), parse_ok hb4 (op_big' (by omega)), parse_nil]
  rfl
/-- The keys, by the operations. -/
def rmF (s : List Int) : Option (List (List Int)) := match parse s with
  | none => none
  | some ops => if 4 ≤ ops.length ∧ ops.length ≤ 19 ∧ 1 ≤ smallF (ops.getD 0 (0, [])).1 ∧ smallF (ops.getD 0 (0, [])).1 ≤ ((ops.length - 3 : Nat) : Int) ∧ smallF (ops.getD (ops.length - 2) (0, [])).1 = ((ops.length - 3 : Nat) : Int) ∧ (ops.getD (ops.length - 1) (0, [])).1 = 174 ∧ ((ops.drop 1).take (ops.length - 3)).all (fun o => o.1 == 33) = true
    then some ([smallF (ops.getD 0 (0, [])).1] :: ((ops.drop 1).take (ops.length - 3)).map (·.2)) else none
structure PmOk (s : List Int) (m : Int) (ks : List (List Int)) : Prop where
  is : s = pmB m ks
  m1 : 1 ≤ m
  mn : m ≤ ks.length
  n16 : ks.length ≤ 16
  len : ∀ k ∈ ks, k.length = 33
theorem small_pos {c : Int} (h : 1 ≤ smallF c) : c = 80 + smallF c := by
  unfold smallF at h ⊢
  split at h
  · omega
  · rename_i h0
    split at h
    · rename_i h1; rw [if_neg h0, if_pos h1]; omega
    · omega
theorem rm_form {s : List Int} {ps : List (List Int)} (hb : byt s) (h : rmF s = some ps) : ∃ m ks, PmOk s m ks ∧ ps = [m] :: ks := by
  unfold rmF at h
  split at h
  · cases h
  · rename_i ops hp
    split at h
    · rename_i hc
      obtain ⟨h1, h2, h3, h4, h5, h6, h7⟩ := hc
      cases h
      cases ops with
      | nil => simp at h1
      | cons o0 os =>
        have hl : os.length = (o0 :: os).length - 1 := by simp
        generalize hn : (o0 :: os).length - 3 = n at h4 h5 h7 ⊢
        have hn2 : (o0 :: os).length = n + 3 := by omega
        have e1 : (o0 :: os).length - 2 = n + 1 := by omega
        have e2 : (o0 :: os).length - 1 = n + 2 := by omega
        rw [e1] at h5
        rw [e2] at h6
        have hos : os.length = n + 2 := by omega
        have hdrop : os.drop n = [os.getD n (0, []), os.getD (n + 1) (0, [])] := by
          rw [List.drop_eq_getElem_cons (by omega), List.drop_eq_getElem_cons (by omega), List.drop_of_length_le (by omega)]
          simp [List.getD, show n < os.length by omega, show n + 1 < os.length by omega]
        have hsplit : os = os.take n ++ [os.getD n (0, []), os.getD (n + 1) (0, [])] := by rw [← hdrop, List.take_append_drop]
        have g0 : ((o0 :: os).getD 0 (0, [])) = o0 := rfl
        have g1 : ((o0 :: os).getD (n + 1) (0, [])) = os.getD n (0, []) := rfl
        have g2 : ((o0 :: os).getD (n + 2) (0, [])) = os.getD (n + 1) (0, []) := rfl
        rw [g0] at h3 h4 ⊢
        rw [g1] at h5
        rw [g2] at h6
        have g3 : (o0 :: os).drop 1 = os := rfl
        rw [g3] at h7 ⊢
        obtain ⟨r0, q1, q2, q3⟩ := op_cons hb hp
        obtain ⟨c0, d0⟩ := o0
        have hc0 := small_pos h3
        simp only at h3 h4 hc0 ⊢
        obtain ⟨rfl, rfl⟩ := op_big hb q1 (by omega)
        rw [hsplit] at q2
        have hall : ∀ o ∈ os.take n, o.1 = 33 := fun o ho => by
          have := List.all_eq_true.1 h7 o ho
          simpa using this
        obtain ⟨r1, rfl, q4, q5, q6⟩ := keys_of _ _ _ q3 q2 hall
        obtain ⟨r2, q7, q8, q9⟩ := op_cons q5 q4
        generalize os.getD n (0, []) = on at h5 q7
        generalize os.getD (n + 1) (0, []) = ol at h6 q8
        obtain ⟨cn, dn⟩ := on
        obtain ⟨cl, dl⟩ := ol
        simp only at h5 h6
        have hcn := small_pos (c := cn) (by omega)
        obtain ⟨rfl, rfl⟩ := op_big q5 q7 (by omega)
        obtain ⟨r3, t1, t2, t3⟩ := op_cons q9 q8
        subst h6
        obtain ⟨rfl, rfl⟩ := op_big q9 t1 (by omega)
        obtain rfl := op_nil t3 t2
        have hkl : ((os.take n).map (·.2)).length = n := by rw [List.length_map, List.length_take]; omega
        refine ⟨smallF c0, (os.take n).map (·.2), ⟨?_, h3, by rw [hkl]; exact h4, by rw [hkl]; omega, q6⟩, rfl⟩
        have e : pmB (smallF c0) ((os.take n).map (·.2)) = (80 + smallF c0) :: (keyL ((os.take n).map (·.2)) ++ [80 + (((os.take n).map (·.2)).length : Int), 174]) := rfl
        rw [e, hkl, ← hc0, ← h5, ← hcn]
    · cases h
theorem rm_pm {m : Int} {ks : List (List Int)} (h : PmOk (pmB m ks) m ks) (hb : byt (pmB m ks)) : rmF (pmB m ks) = some ([m] :: ks) := by
  have h1 := h.m1
  have h2 := h.mn
  have h3 := h.n16
  rw [rmF, parse_pm h1 (by omega) h.len hb]
  have hl : ((80 + m, []) :: (ks.map (fun k => ((33, k) : OE)) ++ [(80 + (ks.length : Int), []), (174, [])])).length = ks.length + 3 := by simp
  have h5 : smallF (80 + m) = m := by unfold smallF; rw [if_neg (by omega), if_pos (by omega)]; omega
  have h6 : smallF (80 + (ks.length : Int)) = ks.length := by unfold smallF; rw [if_neg (by omega), if_pos (by omega)]; omega
  simp only [hl]
  have e1 : ks.length + 3 - 2 = ks.length + 1 := by omega
  have e2 : ks.length + 3 - 1 = ks.length + 2 := by omega
  have e3 : ks.length + 3 - 3 = ks.length := by omega
  rw [e1, e2, e3]
  have g0 : (((80 + m, []) :: (ks.map (fun k => ((33, k) : OE)) ++ [(80 + (ks.length : Int), []), (174, [])]) : List OE).getD 0 (0, [])) = (80 + m, []) := rfl
  have g1 : (((80 + m, []) :: (ks.map (fun k => ((33, k) : OE)) ++ [(80 + (ks.length : Int), []), (174, [])]) : List OE).getD (ks.length + 1) (0, [])) = (80 + (ks.length : Int), []) := by
    rw [List.getD_cons_succ, List.getD_eq_getElem?_getD, List.getElem?_append_right (by simp), List.length_map, Nat.sub_self]; rfl
  have g2 : (((80 + m, []) :: (ks.map (fun k => ((33, k) : OE)) ++ [(80 + (ks.length : Int), []), (174, [])]) : List OE).getD (ks.length + 2) (0, [])) = (174, []) := by
    rw [List.getD_cons_succ, List.getD_eq_getElem?_getD, List.getElem?_append_right (by simp), List.length_map, Nat.add_sub_cancel_left]; rfl
  have g3 : (((80 + m, []) :: (ks.map (fun k => ((33, k) : OE)) ++ [(80 + (ks.length : Int), []), (174, [])]) : List OE).drop 1).take ks.length = ks.map (fun k => ((33, k) : OE)) := by
    rw [List.drop_succ_cons, List.drop_zero, List.take_left' (by simp)]
  rw [g0, g1, g2, g3]
  simp only [h5, h6]
  rw [if_pos ⟨by omega, by omega, h1, h2, trivial, trivial, by simp⟩]
  have hmm : (ks.map (fun k => ((33, k) : OE))).map (·.2) = ks := by
    rw [List.map_map]
    exact List.map_id _
  rw [hmm]
theorem pieces : ∀ (n : Nat) (keys : List Int), keys.length = 34 * n → keys = (List.range n).flatMap (pieceF keys)
  | 0, keys, h => by rw [List.eq_nil_of_length_eq_zero h]; rfl
  | n + 1, keys, h => by
    rw [List.range_succ_eq_map, List.flatMap_cons, List.flatMap_map]
    have h0 : pieceF keys 0 = keys.take 34 := by simp [pieceF]
    have hs : ∀ i, pieceF keys (i + 1) = pieceF (keys.drop 34) i := fun i => by
      have e1 : 34 * (i + 1) + 34 = 34 + (34 * i + 34) := by omega
      have e2 : 34 * (i + 1) = 34 + 34 * i := by omega
      rw [pieceF, pieceF, e1, e2, List.take_drop, List.drop_drop]
    have ih := pieces n (keys.drop 34) (by rw [List.length_drop]; omega)
    rw [h0]
    have : (List.range n).flatMap (fun a => pieceF keys (Nat.succ a)) = (List.range n).flatMap (pieceF (keys.drop 34)) := by
      congr 1
      funext i
      exact hs i
    rw [this, ← ih, List.take_append_drop]
theorem mul_form {s : List Int} {ps : List (List Int)} (h : multiF s = some ps) : ∃ m ks, PmOk s m ks ∧ ps = [m] :: ks := by
  unfold multiF at h
  split at h
  · cases h
  · rename_i h1
    split at h
    · cases h
    · rename_i h2
      cases h
      have hl : 3 ≤ s.length := by
        by_cases h : s.length < 3
        · exact absurd (.inl h) h1
        · omega
      have hlast : s.getLast? = some 174 := by
        by_cases h : s.getLast? = some 174
        · exact h
        · exact absurd (.inr h) h1
      have hz := smallF_r (s.getD (s.length - 2) 0)
      generalize hk : (s.take (s.length - 2)).drop 1 = keys at h2 ⊢
      generalize hsn : smallF (s.getD (s.length - 2) 0) = n at h2 hz ⊢
      generalize hsm : smallF (s.headD 0) = m at h2 ⊢
      have a1 : 1 ≤ m := by
        by_cases h : m < 1
        · exact absurd (.inl h) h2
        · omega
      have a2 : m ≤ n := by
        by_cases h : m > n
        · exact absurd (.inr (.inl h)) h2
        · omega
      have a3 : (keys.length : Int) = 34 * n := by
        by_cases h : (keys.length : Int) = 34 * n
        · exact h
        · exact absurd (.inr (.inr (.inl h))) h2
      have a4 : headOK keys n.toNat = true := by
        by_cases h : headOK keys n.toNat = true
        · exact h
        · exact absurd (.inr (.inr (.inr (by simpa using h)))) h2
      obtain ⟨k, rfl⟩ : ∃ k : Nat, n = k := ⟨n.toNat, by omega⟩
      rw [Int.toNat_natCast] at a4 ⊢
      have hkl : keys.length = 34 * k := by omega
      have hpl : ∀ i, i < k → (pieceF keys i).length = 34 := fun i hi => by rw [pieceF, List.length_drop, List.length_take]; omega
      have hph : ∀ i, i < k → pieceF keys i = 33 :: (pieceF keys i).drop 1 := fun i hi => by
        have := List.all_eq_true.1 a4 i (by simpa using hi)
        have hp := hpl i hi
        cases hq : pieceF keys i with
        | nil => rw [hq] at hp; simp at hp
        | cons x t =>
          rw [hq] at this
          simp at this
          rw [this]; rfl
      have hkk : keys = keyL ((List.range k).map fun i => (pieceF keys i).drop 1) := by
        conv => lhs; rw [pieces k keys hkl]
        rw [keyL, List.flatMap_map]
        have : ∀ l : List Nat, (∀ i ∈ l, i < k) → l.flatMap (pieceF keys) = l.flatMap (fun i => 33 :: (pieceF keys i).drop 1) := by
          intro l hl
          induction l with
          | nil => rfl
          | cons i l ih =>
            rw [List.flatMap_cons, List.flatMap_cons, ih fun j hj => hl j (by simp [hj]), ← hph i (hl i (by simp))]
        exact this _ fun i hi => by simpa using hi
      have hc0 := small_pos (c := s.headD 0) (by omega)
      have hcn := small_pos (c := s.getD (s.length - 2) 0) (by omega)
      rw [hsm] at hc0
      rw [hsn] at hcn
      refine ⟨m, (List.range k).map fun i => (pieceF keys i).drop 1, ⟨?_, a1, by simpa using a2, by simp; omega, fun x hx => ?_⟩, rfl⟩
      · have e : pmB m ((List.range k).map fun i => (pieceF keys i).drop 1) = (80 + m) :: (keyL ((List.range k).map fun i => (pieceF keys i).drop 1) ++ [80 + (((List.range k).map fun i => (pieceF keys i).drop 1).length : Int), 174]) := rfl
        rw [e, ← hkk, ← hc0]
        have hkl2 : (((List.range k).map fun i => (pieceF keys i).drop 1).length : Int) = k := by simp
        rw [hkl2, ← hcn, ← hk]
        have d1 : s.drop (s.length - 2) = [s.getD (s.length - 2) 0, 174] := by
          have hx : s[s.length - 1]'(by omega) = 174 := by
            rw [List.getLast?_eq_getElem?, List.getElem?_eq_getElem (by omega)] at hlast
            exact Option.some.inj hlast
          have e2 : s.length - 2 + 1 = s.length - 1 := by omega
          rw [List.drop_eq_getElem_cons (by omega), e2, List.drop_eq_getElem_cons (by omega), List.drop_of_length_le (by omega), hx]
          simp [List.getD, show s.length - 2 < s.length by omega]
        rw [← d1]
        cases s with
        | nil => simp at hl
        | cons a t =>
          have e3 : (a :: t).length - 2 = t.length - 2 + 1 := by rw [List.length_cons] at hl ⊢; omega
          rw [e3, List.take_succ_cons, List.drop_succ_cons, List.drop_succ_cons, List.drop_zero, List.take_append_drop]
          rfl
      · obtain ⟨i, hi, rfl⟩ := List.mem_map.1 hx
        have hi' : i < k := by simpa using hi
        rw [List.length_drop, hpl i hi']
theorem rm_eq {s : List Int} (hb : byt s) : rmF s = multiF s := by
  cases h : multiF s with
  | some ps =>
    obtain ⟨m, ks, hp, rfl⟩ := mul_form h
    obtain rfl := hp.is
    exact rm_pm hp hb
  | none =>
    cases h2 : rmF s with
    | none => rfl
    | some ps =>
      obtain ⟨m, ks, hp, rfl⟩ := rm_form hb h2
      obtain rfl := hp.is
      rw [multi_pm hp.m1 hp.mn hp.n16 hp.len] at h
      cases h
end Go.Proofs
namespace Go.Proofs
open Go.Vc
set_option maxRecDepth 10000

theorem OwnB.cutA {w : World} {q : Option Addr} {n c : Nat} {bs : List Int} (h : OwnB w (.slice q n c) bs) {l j : Nat} (h1 : l ≤ j) (h2 : j ≤ n) : OwnB w (.slice (advA 1 q c l) (j - l) (c - l)) ((bs.take j).drop l) ∧ ∀ g, blk (.slice (advA 1 q c l) (j - l) (c - l)) g → blk (.slice q n c) g := by
  rcases h with ⟨e, rfl⟩ | ⟨g, o, cap, cur, e, hh, hn, hm, hs, ht⟩
  · injection e with e1 e2 e3
    subst e1 e2 e3
    obtain rfl : j = 0 := by omega
    obtain rfl : l = 0 := by omega
    exact ⟨.inl ⟨rfl, rfl⟩, fun g h => h⟩
  · injection e with e1 e2 e3
    subst e1 e2 e3
    have h0 : OwnB w (.slice (some ⟨g, o, none⟩) bs.length c) bs := .inr ⟨g, o, c, cur, rfl, hh, hn, hm, hs, ht⟩
    by_cases hc : c = l
    · obtain rfl : l = j := by omega
      have hadv : advA 1 (some ⟨g, o, none⟩) c l = some ⟨g, o, none⟩ := by unfold advA; rw [if_pos hc]
      have hnil : (bs.take l).drop l = [] := List.eq_nil_of_length_eq_zero (by rw [List.length_drop, List.length_take]; omega)
      rw [hadv, hnil]
      exact ⟨.inr ⟨g, o, c - l, cur, by rw [Nat.sub_self]; rfl, hh, Nat.zero_le _, by omega, by omega, rfl⟩, fun g h => h⟩
    · have hadv : advA 1 (some ⟨g, o, none⟩) c l = some ⟨g, o + l, none⟩ := by
        unfold advA
        rw [if_neg hc]
        simp only [Option.map_some, Addr.add, Nat.mul_one]
        split
        · rename_i h0; subst h0; rfl
        · rfl
      rw [hadv]
      exact ⟨h0.cut h1 h2, fun g h => h⟩
theorem cutB_lo {w : World} {q : Option Addr} {n c l : Nat} {a : List Int} (h : OwnB w (.slice q n c) a) (hl : l ≤ a.length) : OwnB w (.slice (advA 1 q c l) (n - l) (c - l)) (a.drop l) ∧ ∀ g, blk (.slice (advA 1 q c l) (n - l) (c - l)) g → blk (.slice q n c) g := by
  obtain ⟨q', c', e, _⟩ := h.rd.is
  injection e with e1 e2 e3
  have := h.cutA (l := l) (j := n) (by omega) (Nat.le_refl _)
  rw [List.take_of_length_le (show a.length ≤ n by omega)] at this
  exact this
theorem cutB_hi {w : World} {q : Option Addr} {n c j : Nat} {a : List Int} (h : OwnB w (.slice q n c) a) (hj : j ≤ a.length) : OwnB w (.slice q j c) (a.take j) ∧ ∀ g, blk (.slice q j c) g → blk (.slice q n c) g := by
  rcases h with ⟨e, rfl⟩ | ⟨g, o, cap, cur, e, hh, hn, hm, hs, ht⟩
  · injection e with e1 e2 e3
    subst e1 e2 e3
    obtain rfl : j = 0 := by simpa using hj
    exact ⟨.inl ⟨rfl, rfl⟩, fun g h => h⟩
  · injection e with e1 e2 e3
    subst e1 e2 e3
    have hl : (a.take j).length = j := by rw [List.length_take]; omega
    refine ⟨.inr ⟨g, o, c, cur, by rw [hl], hh, by omega, hm, hs, ?_⟩, fun g h => h⟩
    rw [hl, bv, List.map_take]
    have : a.map (Value.int .u8) = bv a := rfl
    rw [this, ← ht, List.take_take, Nat.min_eq_left hj]
/-- A part of a slice: it reads, and is owned, as that part wherever the whole is. -/
def PartB (x v : Value) (a b : List Int) : Prop := ∀ wz, (Rd wz x a → Rd wz v b) ∧ (OwnB wz x a → OwnB wz v b ∧ ∀ g, blk v g → blk x g)
theorem cutPre2_ok (w : World) (x y : Value) (a b : List Int) (hx : Rd w x a) (hy : Rd w y b) (ha : byt a) (hb : byt b) :
    Calls Try.prog 57 #[x, y] w (Ret fun u w' => ∃ v, u = .tuple #[v, .bool (preB a b)] ∧ PartB x v a (if preB a b then a.drop b.length else a) ∧ w' = w) := by
  refine calls_of_cfg c57_ok (Nat.le_of_ble_eq_true rfl) ?_
  simp only [argE_nil, argE_cons, Nat.reduceAdd, Nat.zero_add]
  have h2 := hy.len
  (refine W_at c57_ok ?_; refine ⟨_, rfl, ?_⟩; simp (disch := first | omega | assumption | rfl | (simp only [vcS] <;> omega) | fail) only [↓ptV_l, ↓vcA, vcB, ↓vcD, vcE, ↓reduceIte, Nat.reduceEqDiff, Nat.reduceAdd, Nat.reduceMul, Nat.reduceLeDiff, Int.reduceLE, Int.reduceLT, Int.reduceEq, Int.reduceToNat, Int.reduceAdd, Int.reduceSub, Int.reduceMul, Int.reduceNeg, reduceCtorEq, Option.bind_some, Option.map_some, List.length_cons, List.length_nil, vcM, List.getElem?_toArray, List.getElem?_cons_zero, List.getElem?_cons_succ])
  (refine W_at c57_ok ?_; refine ⟨_, rfl, ?_⟩; simp (disch := first | omega | assumption | rfl | (simp only [vcS] <;> omega) | fail) only [↓ptV_l, ↓vcA, vcB, ↓vcD, vcE, ↓reduceIte, Nat.reduceEqDiff, Nat.reduceAdd, Nat.reduceMul, Nat.reduceLeDiff, Int.reduceLE, Int.reduceLT, Int.reduceEq, Int.reduceToNat, Int.reduceAdd, Int.reduceSub, Int.reduceMul, Int.reduceNeg, reduceCtorEq, Option.bind_some, Option.map_some, List.length_cons, List.length_nil, vcM, List.getElem?_toArray, List.getElem?_cons_zero, List.getElem?_cons_succ])
  refine callV_ret (hasPre_ok w x y a b hx hy ha hb) ?_
  rintro _ wq ⟨rfl, hw⟩
  obtain rfl : w = wq := hw.symm
  first | (simp (disch := first | omega | assumption | rfl | (simp only [vcS] <;> omega) | fail) only [↓ptV_l, ↓vcA, vcB, ↓vcD, vcE, ↓reduceIte, Nat.reduceEqDiff, Nat.reduceAdd, Nat.reduceMul, Nat.reduceLeDiff, Int.reduceLE, Int.reduceLT, Int.reduceEq, Int.reduceToNat, Int.reduceAdd, Int.reduceSub, Int.reduceMul, Int.reduceNeg, reduceCtorEq, Option.bind_some, Option.map_some, List.length_cons, List.length_nil, vcM, List.getElem?_toArray, List.getElem?_cons_zero, List.getElem?_cons_succ]) | skip
  cases hp : preB a b with
  | true =>
    have hle := (of_decide_eq_true hp).1
    obtain ⟨q, c, rfl, hc⟩ := hx.eq
    have hsl : 0 ≤ (b.length : Int) ∧ (b.length : Int) ≤ (a.length : Nat) ∧ ((a.length : Nat) : Int) ≤ c := by omega
    have hsl2 : 0 ≤ (a.length : Int) ∧ (a.length : Int) ≤ c := by omega
    have hsl3 : 0 ≤ (b.length : Int) ∧ (b.length : Int) ≤ (a.length : Nat) := by omega
    (refine W_at c57_ok ?_; refine ⟨_, rfl, ?_⟩; simp (disch := first | omega | assumption | rfl | (simp only [vcS] <;> omega) | fail) only [↓ptV_l, ↓vcA, vcB, ↓vcD, vcE, ↓reduceIte, Nat.reduceEqDiff, Nat.reduceAdd, Nat.reduceMul, Nat.reduceLeDiff, Int.reduceLE, Int.reduceLT, Int.reduceEq, Int.reduceToNat, Int.reduceAdd, Int.reduceSub, Int.reduceMul, Int.reduceNeg, reduceCtorEq, Option.bind_some, Option.map_some, List.length_cons, List.length_nil, vcM, List.getElem?_toArray, List.getElem?_cons_zero, List.getElem?_cons_succ])
    (refine W_at c57_ok ?_; refine ⟨_, rfl, ?_⟩; simp (disch := first | omega | assumption | rfl | (simp only [vcS] <;> omega) | fail) only [↓ptV_l, ↓vcA, vcB, ↓vcD, vcE, ↓reduceIte, Nat.reduceEqDiff, Nat.reduceAdd, Nat.reduceMul, Nat.reduceLeDiff, Int.reduceLE, Int.reduceLT, Int.reduceEq, Int.reduceToNat, Int.reduceAdd, Int.reduceSub, Int.reduceMul, Int.reduceNeg, reduceCtorEq, Option.bind_some, Option.map_some, List.length_cons, List.length_nil, vcM, List.getElem?_toArray, List.getElem?_cons_zero, List.getElem?_cons_succ, h2, hsl, hsl2, hsl3, Int.toNat_natCast])
    (refine W_at c57_ok ?_; refine ⟨_, rfl, ?_⟩; simp (disch := first | omega | assumption | rfl | (simp only [vcS] <;> omega) | fail) only [↓ptV_l, ↓vcA, vcB, ↓vcD, vcE, ↓reduceIte, Nat.reduceEqDiff, Nat.reduceAdd, Nat.reduceMul, Nat.reduceLeDiff, Int.reduceLE, Int.reduceLT, Int.reduceEq, Int.reduceToNat, Int.reduceAdd, Int.reduceSub, Int.reduceMul, Int.reduceNeg, reduceCtorEq, Option.bind_some, Option.map_some, List.length_cons, List.length_nil, vcM, List.getElem?_toArray, List.getElem?_cons_zero, List.getElem?_cons_succ, Ret_returned])
    exact ⟨_, rfl, fun wz => ⟨fun hz => (cut_lo hz hle).2, fun hz => cutB_lo hz hle⟩⟩
  | false =>
    (refine W_at c57_ok ?_; refine ⟨_, rfl, ?_⟩; simp (disch := first | omega | assumption | rfl | (simp only [vcS] <;> omega) | fail) only [↓ptV_l, ↓vcA, vcB, ↓vcD, vcE, ↓reduceIte, Nat.reduceEqDiff, Nat.reduceAdd, Nat.reduceMul, Nat.reduceLeDiff, Int.reduceLE, Int.reduceLT, Int.reduceEq, Int.reduceToNat, Int.reduceAdd, Int.reduceSub, Int.reduceMul, Int.reduceNeg, reduceCtorEq, Option.bind_some, Option.map_some, List.length_cons, List.length_nil, vcM, List.getElem?_toArray, List.getElem?_cons_zero, List.getElem?_cons_succ])
    (refine W_at c57_ok ?_; refine ⟨_, rfl, ?_⟩; simp (disch := first | omega | assumption | rfl | (simp only [vcS] <;> omega) | fail) only [↓ptV_l, ↓vcA, vcB, ↓vcD, vcE, ↓reduceIte, Nat.reduceEqDiff, Nat.reduceAdd, Nat.reduceMul, Nat.reduceLeDiff, Int.reduceLE, Int.reduceLT, Int.reduceEq, Int.reduceToNat, Int.reduceAdd, Int.reduceSub, Int.reduceMul, Int.reduceNeg, reduceCtorEq, Option.bind_some, Option.map_some, List.length_cons, List.length_nil, vcM, List.getElem?_toArray, List.getElem?_cons_zero, List.getElem?_cons_succ])
    (refine W_at c57_ok ?_; refine ⟨_, rfl, ?_⟩; simp (disch := first | omega | assumption | rfl | (simp only [vcS] <;> omega) | fail) only [↓ptV_l, ↓vcA, vcB, ↓vcD, vcE, ↓reduceIte, Nat.reduceEqDiff, Nat.reduceAdd, Nat.reduceMul, Nat.reduceLeDiff, Int.reduceLE, Int.reduceLT, Int.reduceEq, Int.reduceToNat, Int.reduceAdd, Int.reduceSub, Int.reduceMul, Int.reduceNeg, reduceCtorEq, Option.bind_some, Option.map_some, List.length_cons, List.length_nil, vcM, List.getElem?_toArray, List.getElem?_cons_zero, List.getElem?_cons_succ, Ret_returned])
    exact ⟨_, rfl, fun wz => ⟨fun hz => hz, fun hz => ⟨hz, fun _ h => h⟩⟩⟩
theorem cutSuf2_ok (w : World) (x y : Value) (a b : List Int) (hx : Rd w x a) (hy : Rd w y b) (ha : byt a) (hb : byt b) (hl : a.length ≤ 1000000000) :
    Calls Try.prog 69 #[x, y] w (Ret fun u w' => ∃ v, u = .tuple #[v, .bool (sufB a b)] ∧ PartB x v a (if sufB a b then a.take (a.length - b.length) else a) ∧ w' = w) := by
  refine calls_of_cfg c69_ok (Nat.le_of_ble_eq_true rfl) ?_
  simp only [argE_nil, argE_cons, Nat.reduceAdd, Nat.zero_add]
  have h1 := hx.len
  have h2 := hy.len
  (refine W_at c69_ok ?_; refine ⟨_, rfl, ?_⟩; simp (disch := first | omega | assumption | rfl | (simp only [vcS] <;> omega) | fail) only [↓ptV_l, ↓vcA, vcB, ↓vcD, vcE, ↓reduceIte, Nat.reduceEqDiff, Nat.reduceAdd, Nat.reduceMul, Nat.reduceLeDiff, Int.reduceLE, Int.reduceLT, Int.reduceEq, Int.reduceToNat, Int.reduceAdd, Int.reduceSub, Int.reduceMul, Int.reduceNeg, reduceCtorEq, Option.bind_some, Option.map_some, List.length_cons, List.length_nil, vcM, List.getElem?_toArray, List.getElem?_cons_zero, List.getElem?_cons_succ])
  (refine W_at c69_ok ?_; refine ⟨_, rfl, ?_⟩; simp (disch := first | omega | assumption | rfl | (simp only [vcS] <;> omega) | fail) only [↓ptV_l, ↓vcA, vcB, ↓vcD, vcE, ↓reduceIte, Nat.reduceEqDiff, Nat.reduceAdd, Nat.reduceMul, Nat.reduceLeDiff, Int.reduceLE, Int.reduceLT, Int.reduceEq, Int.reduceToNat, Int.reduceAdd, Int.reduceSub, Int.reduceMul, Int.reduceNeg, reduceCtorEq, Option.bind_some, Option.map_some, List.length_cons, List.length_nil, vcM, List.getElem?_toArray, List.getElem?_cons_zero, List.getElem?_cons_succ])
  refine callV_ret (hasSuf_ok w x y a b hx hy ha hb hl) ?_
  rintro _ wq ⟨rfl, hw⟩
  obtain rfl : w = wq := hw.symm
  first | (simp (disch := first | omega | assumption | rfl | (simp only [vcS] <;> omega) | fail) only [↓ptV_l, ↓vcA, vcB, ↓vcD, vcE, ↓reduceIte, Nat.reduceEqDiff, Nat.reduceAdd, Nat.reduceMul, Nat.reduceLeDiff, Int.reduceLE, Int.reduceLT, Int.reduceEq, Int.reduceToNat, Int.reduceAdd, Int.reduceSub, Int.reduceMul, Int.reduceNeg, reduceCtorEq, Option.bind_some, Option.map_some, List.length_cons, List.length_nil, vcM, List.getElem?_toArray, List.getElem?_cons_zero, List.getElem?_cons_succ]) | skip
  cases hp : sufB a b with
  | true =>
    have hle := (of_decide_eq_true hp).1
    obtain ⟨q, c, rfl, hc⟩ := hx.eq
    have hws : IntKind.i64.wrap ((a.length : Int) - b.length) = ((a.length - b.length : Nat) : Int) := by rw [wrap_i64 (by omega) (by omega)]; omega
    have hsl : 0 ≤ ((a.length - b.length : Nat) : Int) ∧ ((a.length - b.length : Nat) : Int) ≤ c := by omega
    (refine W_at c69_ok ?_; refine ⟨_, rfl, ?_⟩; simp (disch := first | omega | assumption | rfl | (simp only [vcS] <;> omega) | fail) only [↓ptV_l, ↓vcA, vcB, ↓vcD, vcE, ↓reduceIte, Nat.reduceEqDiff, Nat.reduceAdd, Nat.reduceMul, Nat.reduceLeDiff, Int.reduceLE, Int.reduceLT, Int.reduceEq, Int.reduceToNat, Int.reduceAdd, Int.reduceSub, Int.reduceMul, Int.reduceNeg, reduceCtorEq, Option.bind_some, Option.map_some, List.length_cons, List.length_nil, vcM, List.getElem?_toArray, List.getElem?_cons_zero, List.getElem?_cons_succ])
    (refine W_at c69_ok ?_; refine ⟨_, rfl, ?_⟩; simp (disch := first | omega | assumption | rfl | (simp only [vcS] <;> omega) | fail) only [↓ptV_l, ↓vcA, vcB, ↓vcD, vcE, ↓reduceIte, Nat.reduceEqDiff, Nat.reduceAdd, Nat.reduceMul, Nat.reduceLeDiff, Int.reduceLE, Int.reduceLT, Int.reduceEq, Int.reduceToNat, Int.reduceAdd, Int.reduceSub, Int.reduceMul, Int.reduceNeg, reduceCtorEq, Option.bind_some, Option.map_some, List.length_cons, List.length_nil, vcM, List.getElem?_toArray, List.getElem?_cons_zero, List.getElem?_cons_succ, h1, h2, hws, hsl, Int.toNat_natCast])
    (refine W_at c69_ok ?_; refine ⟨_, rfl, ?_⟩; simp (disch := first | omega | assumption | rfl | (simp only [vcS] <;> omega) | fail) only [↓ptV_l, ↓vcA, vcB, ↓vcD, vcE, ↓reduceIte, Nat.reduceEqDiff, Nat.reduceAdd, Nat.reduceMul, Nat.reduceLeDiff, Int.reduceLE, Int.reduceLT, Int.reduceEq, Int.reduceToNat, Int.reduceAdd, Int.reduceSub, Int.reduceMul, Int.reduceNeg, reduceCtorEq, Option.bind_some, Option.map_some, List.length_cons, List.length_nil, vcM, List.getElem?_toArray, List.getElem?_cons_zero, List.getElem?_cons_succ, Ret_returned])
    exact ⟨_, rfl, fun wz => ⟨fun hz => cut_hi hz (by omega), fun hz => cutB_hi hz (by omega)⟩⟩
  | false =>
    (refine W_at c69_ok ?_; refine ⟨_, rfl, ?_⟩; simp (disch := first | omega | assumption | rfl | (simp only [vcS] <;> omega) | fail) only [↓ptV_l, ↓vcA, vcB, ↓vcD, vcE, ↓reduceIte, Nat.reduceEqDiff, Nat.reduceAdd, Nat.reduceMul, Nat.reduceLeDiff, Int.reduceLE, Int.reduceLT, Int.reduceEq, Int.reduceToNat, Int.reduceAdd, Int.reduceSub, Int.reduceMul, Int.reduceNeg, reduceCtorEq, Option.bind_some, Option.map_some, List.length_cons, List.length_nil, vcM, List.getElem?_toArray, List.getElem?_cons_zero, List.getElem?_cons_succ])
    (refine W_at c69_ok ?_; refine ⟨_, rfl, ?_⟩; simp (disch := first | omega | assumption | rfl | (simp only [vcS] <;> omega) | fail) only [↓ptV_l, ↓vcA, vcB, ↓vcD, vcE, ↓reduceIte, Nat.reduceEqDiff, Nat.reduceAdd, Nat.reduceMul, Nat.reduceLeDiff, Int.reduceLE, Int.reduceLT, Int.reduceEq, Int.reduceToNat, Int.reduceAdd, Int.reduceSub, Int.reduceMul, Int.reduceNeg, reduceCtorEq, Option.bind_some, Option.map_some, List.length_cons, List.length_nil, vcM, List.getElem?_toArray, List.getElem?_cons_zero, List.getElem?_cons_succ])
    (refine W_at c69_ok ?_; refine ⟨_, rfl, ?_⟩; simp (disch := first | omega | assumption | rfl | (simp only [vcS] <;> omega) | fail) only [↓ptV_l, ↓vcA, vcB, ↓vcD, vcE, ↓reduceIte, Nat.reduceEqDiff, Nat.reduceAdd, Nat.reduceMul, Nat.reduceLeDiff, Int.reduceLE, Int.reduceLT, Int.reduceEq, Int.reduceToNat, Int.reduceAdd, Int.reduceSub, Int.reduceMul, Int.reduceNeg, reduceCtorEq, Option.bind_some, Option.map_some, List.length_cons, List.length_nil, vcM, List.getElem?_toArray, List.getElem?_cons_zero, List.getElem?_cons_succ, Ret_returned])
    exact ⟨_, rfl, fun wz => ⟨fun hz => hz, fun hz => ⟨hz, fun _ h => h⟩⟩⟩
theorem between2_ok (w : World) (x y z : Value) (s h t : List Int) (n : Nat) (hx : Rd w x s) (hy : Rd w y h) (hz : Rd w z t) (hs : byt s) (hh : byt h) (ht : byt t) (hl : s.length ≤ 1000000000) :
    Calls Try.prog 55 #[x, y, z, .int .i64 (n : Nat)] w (Ret fun u w' => ∃ v ok, u = .tuple #[v, .bool ok] ∧ (match betF s h t n with | some m => ok = true ∧ PartB x v s m | none => ok = false) ∧ w' = w) := by
  refine calls_of_cfg c55_ok (Nat.le_of_ble_eq_true rfl) ?_
  simp only [argE_nil, argE_cons, Nat.reduceAdd, Nat.zero_add]
  (refine W_at c55_ok ?_; refine ⟨_, rfl, ?_⟩; simp (disch := first | omega | assumption | rfl | (simp only [vcS] <;> omega) | fail) only [↓ptV_l, ↓vcA, vcB, ↓vcD, vcE, ↓reduceIte, Nat.reduceEqDiff, Nat.reduceAdd, Nat.reduceMul, Nat.reduceLeDiff, Int.reduceLE, Int.reduceLT, Int.reduceEq, Int.reduceToNat, Int.reduceAdd, Int.reduceSub, Int.reduceMul, Int.reduceNeg, reduceCtorEq, Option.bind_some, Option.map_some, List.length_cons, List.length_nil, vcM, List.getElem?_toArray, List.getElem?_cons_zero, List.getElem?_cons_succ])
  (refine W_at c55_ok ?_; refine ⟨_, rfl, ?_⟩; simp (disch := first | omega | assumption | rfl | (simp only [vcS] <;> omega) | fail) only [↓ptV_l, ↓vcA, vcB, ↓vcD, vcE, ↓reduceIte, Nat.reduceEqDiff, Nat.reduceAdd, Nat.reduceMul, Nat.reduceLeDiff, Int.reduceLE, Int.reduceLT, Int.reduceEq, Int.reduceToNat, Int.reduceAdd, Int.reduceSub, Int.reduceMul, Int.reduceNeg, reduceCtorEq, Option.bind_some, Option.map_some, List.length_cons, List.length_nil, vcM, List.getElem?_toArray, List.getElem?_cons_zero, List.getElem?_cons_succ])
  refine callV_ret (cutPre2_ok w x y s h hx hy hs hh) ?_
  rintro _ wq ⟨v1, rfl, hP1, hw⟩
  obtain rfl : w = wq := hw.symm
  simp (disch := first | omega | assumption | rfl | (simp only [vcS] <;> omega) | fail) only [↓ptV_l, ↓vcA, vcB, ↓vcD, vcE, ↓reduceIte, Nat.reduceEqDiff, Nat.reduceAdd, Nat.reduceMul, Nat.reduceLeDiff, Int.reduceLE, Int.reduceLT, Int.reduceEq, Int.reduceToNat, Int.reduceAdd, Int.reduceSub, Int.reduceMul, Int.reduceNeg, reduceCtorEq, Option.bind_some, Option.map_some, List.length_cons, List.length_nil, vcM, List.getElem?_toArray, List.getElem?_cons_zero, List.getElem?_cons_succ]
  (refine W_at c55_ok ?_; refine ⟨_, rfl, ?_⟩; simp (disch := first | omega | assumption | rfl | (simp only [vcS] <;> omega) | fail) only [↓ptV_l, ↓vcA, vcB, ↓vcD, vcE, ↓reduceIte, Nat.reduceEqDiff, Nat.reduceAdd, Nat.reduceMul, Nat.reduceLeDiff, Int.reduceLE, Int.reduceLT, Int.reduceEq, Int.reduceToNat, Int.reduceAdd, Int.reduceSub, Int.reduceMul, Int.reduceNeg, reduceCtorEq, Option.bind_some, Option.map_some, List.length_cons, List.length_nil, vcM, List.getElem?_toArray, List.getElem?_cons_zero, List.getElem?_cons_succ])
  have hb1 : byt (if preB s h then s.drop h.length else s) := byt_if (byt_drop hs _) hs
  have hl1 : (if preB s h then s.drop h.length else s).length ≤ 1000000000 := by split <;> (try rw [List.length_drop]) <;> omega
  refine callV_ret (cutSuf2_ok w v1 z _ t ((hP1 w).1 hx) hz hb1 ht hl1) ?_
  rintro _ wq ⟨v2, rfl, hP2, hw⟩
  obtain rfl : w = wq := hw.symm
  simp (disch := first | omega | assumption | rfl | (simp only [vcS] <;> omega) | fail) only [↓ptV_l, ↓vcA, vcB, ↓vcD, vcE, ↓reduceIte, Nat.reduceEqDiff, Nat.reduceAdd, Nat.reduceMul, Nat.reduceLeDiff, Int.reduceLE, Int.reduceLT, Int.reduceEq, Int.reduceToNat, Int.reduceAdd, Int.reduceSub, Int.reduceMul, Int.reduceNeg, reduceCtorEq, Option.bind_some, Option.map_some, List.length_cons, List.length_nil, vcM, List.getElem?_toArray, List.getElem?_cons_zero, List.getElem?_cons_succ]
  have hr2 := (hP2 w).1 ((hP1 w).1 hx)
  have hlen := hr2.len
  cases hp : preB s h with
  | false =>
    (refine W_at c55_ok ?_; refine ⟨_, rfl, ?_⟩; simp (disch := first | omega | assumption | rfl | (simp only [vcS] <;> omega) | fail) only [↓ptV_l, ↓vcA, vcB, ↓vcD, vcE, ↓reduceIte, Nat.reduceEqDiff, Nat.reduceAdd, Nat.reduceMul, Nat.reduceLeDiff, Int.reduceLE, Int.reduceLT, Int.reduceEq, Int.reduceToNat, Int.reduceAdd, Int.reduceSub, Int.reduceMul, Int.reduceNeg, reduceCtorEq, Option.bind_some, Option.map_some, List.length_cons, List.length_nil, vcM, List.getElem?_toArray, List.getElem?_cons_zero, List.getElem?_cons_succ])
    (refine W_at c55_ok ?_; refine ⟨_, rfl, ?_⟩; simp (disch := first | omega | assumption | rfl | (simp only [vcS] <;> omega) | fail) only [↓ptV_l, ↓vcA, vcB, ↓vcD, vcE, ↓reduceIte, Nat.reduceEqDiff, Nat.reduceAdd, Nat.reduceMul, Nat.reduceLeDiff, Int.reduceLE, Int.reduceLT, Int.reduceEq, Int.reduceToNat, Int.reduceAdd, Int.reduceSub, Int.reduceMul, Int.reduceNeg, reduceCtorEq, Option.bind_some, Option.map_some, List.length_cons, List.length_nil, vcM, List.getElem?_toArray, List.getElem?_cons_zero, List.getElem?_cons_succ, Ret_returned])
    refine ⟨v2, false, rfl, ?_⟩
    rw [betF, hp]; rfl
  | true =>
    rw [hp] at hP1 hP2 hlen
    simp only [if_true] at hP1 hP2 hlen
    cases hq : sufB (s.drop h.length) t with
    | false =>
      (refine W_at c55_ok ?_; refine ⟨_, rfl, ?_⟩; simp (disch := first | omega | assumption | rfl | (simp only [vcS] <;> omega) | fail) only [↓ptV_l, ↓vcA, vcB, ↓vcD, vcE, ↓reduceIte, Nat.reduceEqDiff, Nat.reduceAdd, Nat.reduceMul, Nat.reduceLeDiff, Int.reduceLE, Int.reduceLT, Int.reduceEq, Int.reduceToNat, Int.reduceAdd, Int.reduceSub, Int.reduceMul, Int.reduceNeg, reduceCtorEq, Option.bind_some, Option.map_some, List.length_cons, List.length_nil, vcM, List.getElem?_toArray, List.getElem?_cons_zero, List.getElem?_cons_succ, hq])
      (refine W_at c55_ok ?_; refine ⟨_, rfl, ?_⟩; simp (disch := first | omega | assumption | rfl | (simp only [vcS] <;> omega) | fail) only [↓ptV_l, ↓vcA, vcB, ↓vcD, vcE, ↓reduceIte, Nat.reduceEqDiff, Nat.reduceAdd, Nat.reduceMul, Nat.reduceLeDiff, Int.reduceLE, Int.reduceLT, Int.reduceEq, Int.reduceToNat, Int.reduceAdd, Int.reduceSub, Int.reduceMul, Int.reduceNeg, reduceCtorEq, Option.bind_some, Option.map_some, List.length_cons, List.length_nil, vcM, List.getElem?_toArray, List.getElem?_cons_zero, List.getElem?_cons_succ, Ret_returned])
      refine ⟨v2, false, rfl, ?_⟩
      rw [betF, hp, hq]; rfl
    | true =>
      rw [hq] at hP2 hlen
      simp only [if_true] at hP2 hlen
      have hle := (of_decide_eq_true hq).1
      have htl : ((s.drop h.length).take ((s.drop h.length).length - t.length)).length = (s.drop h.length).length - t.length := by rw [List.length_take]; omega
      rw [htl] at hlen
      have hd : decide ((((s.drop h.length).length - t.length : Nat) : Int) = (n : Nat)) = decide ((s.drop h.length).length - t.length = n) := decide_eq_decide.2 (by omega)
      (refine W_at c55_ok ?_; refine ⟨_, rfl, ?_⟩; simp (disch := first | omega | assumption | rfl | (simp only [vcS] <;> omega) | fail) only [↓ptV_l, ↓vcA, vcB, ↓vcD, vcE, ↓reduceIte, Nat.reduceEqDiff, Nat.reduceAdd, Nat.reduceMul, Nat.reduceLeDiff, Int.reduceLE, Int.reduceLT, Int.reduceEq, Int.reduceToNat, Int.reduceAdd, Int.reduceSub, Int.reduceMul, Int.reduceNeg, reduceCtorEq, Option.bind_some, Option.map_some, List.length_cons, List.length_nil, vcM, List.getElem?_toArray, List.getElem?_cons_zero, List.getElem?_cons_succ, hq, hlen, hd])
      (refine W_at c55_ok ?_; refine ⟨_, rfl, ?_⟩; simp (disch := first | omega | assumption | rfl | (simp only [vcS] <;> omega) | fail) only [↓ptV_l, ↓vcA, vcB, ↓vcD, vcE, ↓reduceIte, Nat.reduceEqDiff, Nat.reduceAdd, Nat.reduceMul, Nat.reduceLeDiff, Int.reduceLE, Int.reduceLT, Int.reduceEq, Int.reduceToNat, Int.reduceAdd, Int.reduceSub, Int.reduceMul, Int.reduceNeg, reduceCtorEq, Option.bind_some, Option.map_some, List.length_cons, List.length_nil, vcM, List.getElem?_toArray, List.getElem?_cons_zero, List.getElem?_cons_succ, Ret_returned])
      refine ⟨v2, _, rfl, ?_⟩
      rw [betF, hp, hq]
      by_cases hn : (s.drop h.length).length - t.length = n
      · rw [decide_eq_true hn]
        exact ⟨rfl, fun wz => ⟨fun hz => (hP2 wz).1 ((hP1 wz).1 hz), fun hz => ⟨((hP2 wz).2 ((hP1 wz).2 hz).1).1, fun g h => ((hP1 wz).2 hz).2 g (((hP2 wz).2 ((hP1 wz).2 hz).1).2 g h)⟩⟩⟩
      · rw [decide_eq_false hn]; rfl
/-- Lists of bytes, each of its own, above m. -/
structure PtsB (m : Nat) (w : World) (v : Value) (ts : List PE) : Prop where
  row : w.ownsRow m 22 1 v ts.length (ts.map (·.2))
  own : ∀ t ∈ ts, OwnB w t.2 t.1 ∧ ∀ g, blk t.2 g → m ≤ g
  dist : Dist (ts.map (·.2))
theorem PtsAt.b {m : Nat} {w : World} {v : Value} {ts : List PE} (h : PtsAt m w v ts) : PtsB m w v ts := ⟨h.row, fun t ht => ⟨(h.own t ht).1.b, (h.own t ht).2⟩, h.dist⟩
theorem PtsB.base {m m2 : Nat} {w : World} {v : Value} {ts : List PE} (h : PtsB m w v ts) (hm : m2 ≤ m) : PtsB m2 w v ts := by
  refine ⟨?_, fun t ht => ⟨(h.own t ht).1, fun g hg => Nat.le_trans hm ((h.own t ht).2 g hg)⟩, h.dist⟩
  obtain ⟨hl, h1 | ⟨g, cap, cur, e, hb, r⟩⟩ := h.row
  · exact ⟨hl, .inl h1⟩
  · exact ⟨hl, .inr ⟨g, cap, cur, e, Nat.le_trans hm hb, r⟩⟩
theorem PtsB.ext {m : Nat} {w w' : World} {v : Value} {ts : List PE} (h : PtsB m w v ts) (k : Ext w w') : PtsB m w' v ts :=
  ⟨ownsRow_keep h.row k fun _ _ h => h, fun t ht => ⟨(h.own t ht).1.ext k, (h.own t ht).2⟩, h.dist⟩
theorem PtsB.nil (m : Nat) (w : World) : PtsB m w (.slice none 0 0) [] := ⟨World.ownsRow_nil w m 22 1, fun _ h => (by cases h), fun i _ hi => absurd hi (Nat.not_lt_zero i)⟩
theorem PtsB.lit1 {m : Nat} {w : World} {v : Value} {d : List Int} (ho : OwnB w v d) (hd : ∀ g, blk v g → m ≤ g) (hm : m ≤ w.heap.size) : PtsB m (w.alloc (.cells [v].toArray 22)) (.slice (some ⟨w.heap.size, 0, none⟩) 1 1) [(d, v)] :=
  ⟨ownsRow_lit (w := w) (el := 22) (size := 1) (n := 1) (cs := [v].toArray) hm rfl (by decide), fun t ht => by
    simp only [List.mem_singleton] at ht
    subst ht
    exact ⟨ho.ext ((Keep.refl _ w).alloc _), hd⟩, fun i j hi hj g _ _ => by simp at hi hj; omega⟩
theorem PtsB.lit2 {m : Nat} {w : World} {v v2 : Value} {d d2 : List Int} (ho : OwnB w v d) (ho2 : OwnB w v2 d2) (hd : ∀ g, blk v g → m ≤ g) (hd2 : ∀ g, blk v2 g → m ≤ g) (hne : ∀ g, blk v g → ¬ blk v2 g) (hm : m ≤ w.heap.size) : PtsB m (w.alloc (.cells [v, v2].toArray 22)) (.slice (some ⟨w.heap.size, 0, none⟩) 2 2) [(d, v), (d2, v2)] := by
  refine ⟨ownsRow_lit (w := w) (el := 22) (size := 1) (n := 2) (cs := [v, v2].toArray) hm rfl (by decide), fun t ht => ?_, fun i j hi hj g a b => ?_⟩
  · simp only [List.mem_cons, List.not_mem_nil, or_false] at ht
    rcases ht with rfl | rfl
    · exact ⟨ho.ext ((Keep.refl _ w).alloc _), hd⟩
    · exact ⟨ho2.ext ((Keep.refl _ w).alloc _), hd2⟩
  · simp only [List.map_cons, List.map_nil, List.length_cons, List.length_nil] at hi hj
    rcases i with _ | _ | i <;> rcases j with _ | _ | j
    · rfl
    · exact absurd b (hne g a)
    · omega
    · exact absurd a (hne g b)
    · rfl
    · omega
    · omega
    · omega
    · omega
theorem PtsB.parts {m : Nat} {w : World} {v : Value} {ts : List PE} (h : PtsB m w v ts) : PartsAt w v (ts.map (·.1)) := by
  refine ⟨ts.map (·.2), rdS_own h.row, by simp, ?_, fun i hi hi' => ?_⟩
  · rcases h.row.2 with ⟨e, hn⟩ | ⟨g, cap, cur, e, _⟩
    · rw [List.length_map, hn]; exact ⟨_, _, e⟩
    · rw [List.length_map]; exact ⟨_, _, e⟩
  · have hi2 : i < ts.length := by simpa using hi
    have := (h.own _ (List.getElem_mem hi2)).1.rd
    simpa using this
/-- What a script is. -/
def kindG (s : List Int) : Int × List (List Int) :=
  match betF s [118, 169, 20] [136, 172] 20 with
  | some h => (1, [h])
  | none => match betF s [169, 20] [135] 20 with
    | some h => (2, [h])
    | none => match progF s with
      | some (v, p) => if v = 0 ∧ p.length = 20 then (3, [p]) else if v = 0 ∧ p.length = 32 then (4, [p]) else (7, [[v], p])
      | none => match multiF s with
        | some ps => (5, ps)
        | none => if preB s [106] && pushesF (s.drop 1) then (6, [s.drop 1]) else (0, [])
def KindOwn (w w' : World) (s : List Int) (u : Value) : Prop := ∃ v ts, u = .tuple #[.int .i64 (kindG s).1, v] ∧ ts.map (·.1) = (kindG s).2 ∧ PtsB w.heap.size w' v ts ∧ Ext w w'
set_option maxHeartbeats 1600000 in
theorem kind2_ok (w : World) (x : Value) (s : List Int) (hx : Rd w x s) (hb : byt s) (hl : s.length ≤ 1000000) :
    Calls Try.prog 20 #[x] w (Ret fun u w' => KindOwn w w' s u) := by
  refine calls_of_cfg c20_ok (Nat.le_of_ble_eq_true rfl) ?_
  simp only [argE_nil, argE_cons, Nat.reduceAdd, Nat.zero_add]
  (refine W_at c20_ok ?_; refine ⟨_, rfl, ?_⟩; simp (disch := first | omega | assumption | rfl | (simp only [vcS] <;> omega) | fail) only [↓ptV_l, ↓vcA, vcB, ↓vcD, vcE, ↓reduceIte, Nat.reduceEqDiff, Nat.reduceAdd, Nat.reduceMul, Nat.reduceLeDiff, Int.reduceLE, Int.reduceLT, Int.reduceEq, Int.reduceToNat, Int.reduceAdd, Int.reduceSub, Int.reduceMul, Int.reduceNeg, reduceCtorEq, Option.bind_some, Option.map_some, List.length_cons, List.length_nil, vcM, List.getElem?_toArray, List.getElem?_cons_zero, List.getElem?_cons_succ])
  (refine W_at c20_ok ?_; refine ⟨_, rfl, ?_⟩; simp (disch := first | omega | assumption | rfl | (simp only [vcS] <;> omega) | fail) only [↓ptV_l, ↓vcA, vcB, ↓vcD, vcE, ↓reduceIte, Nat.reduceEqDiff, Nat.reduceAdd, Nat.reduceMul, Nat.reduceLeDiff, Int.reduceLE, Int.reduceLT, Int.reduceEq, Int.reduceToNat, Int.reduceAdd, Int.reduceSub, Int.reduceMul, Int.reduceNeg, reduceCtorEq, Option.bind_some, Option.map_some, List.length_cons, List.length_nil, vcM, List.getElem?_toArray, List.getElem?_cons_zero, List.getElem?_cons_succ])
  refine callV_ret (clone_ok w x s hx (by omega)) ?_
  rintro y w1 ⟨hO, hE1, hn1⟩
  have hy := hO.rd
  have hyB := hO.b
  first | (simp (disch := first | omega | assumption | rfl | (simp only [vcS] <;> omega) | fail) only [↓ptV_l, ↓vcA, vcB, ↓vcD, vcE, ↓reduceIte, Nat.reduceEqDiff, Nat.reduceAdd, Nat.reduceMul, Nat.reduceLeDiff, Int.reduceLE, Int.reduceLT, Int.reduceEq, Int.reduceToNat, Int.reduceAdd, Int.reduceSub, Int.reduceMul, Int.reduceNeg, reduceCtorEq, Option.bind_some, Option.map_some, List.length_cons, List.length_nil, vcM, List.getElem?_toArray, List.getElem?_cons_zero, List.getElem?_cons_succ]) | skip
  clear hx hO
  have lit : ∀ (wz : World) (bs : List Int), bs.length ≤ 10 → Rd (wz.alloc (.cells (bv bs).toArray 5)) (.slice (some ⟨wz.heap.size, 0, none⟩) bs.length bs.length) bs := fun wz bs h => (own_lit1 (w := wz) (bs := bs) (by have : maxLen = 9223372036854775807 := rfl; omega)).rd
  have lit' : ∀ (wz : World) (o : Obj) (bs : List Int), bs.length ≤ 10 → Rd ((wz.alloc o).alloc (.cells (bv bs).toArray 5)) (.slice (some ⟨wz.heap.size + 1, 0, none⟩) bs.length bs.length) bs := fun wz o bs h => by
    have := lit (wz.alloc o) bs h
    rw [size_alloc] at this
    exact this
  have lE : ∀ (wz : World) (bs : List Int), Ext wz (wz.alloc (.cells (bv bs).toArray 5)) := fun wz bs => (Keep.refl _ wz).alloc _
  have hone : ∀ {wz : World} {v : Value} {a : List Int}, Rd wz v a → v.cells = #[v] := fun h => by
    obtain ⟨q, c, rfl, _⟩ := h.eq; rfl
  -- a key's hash
  (refine W_at c20_ok ?_; refine ⟨_, rfl, ?_⟩; simp (disch := first | omega | assumption | rfl | (simp only [vcS] <;> omega) | fail) only [↓ptV_l, ↓vcA, vcB, ↓vcD, vcE, ↓reduceIte, Nat.reduceEqDiff, Nat.reduceAdd, Nat.reduceMul, Nat.reduceLeDiff, Int.reduceLE, Int.reduceLT, Int.reduceEq, Int.reduceToNat, Int.reduceAdd, Int.reduceSub, Int.reduceMul, Int.reduceNeg, reduceCtorEq, Option.bind_some, Option.map_some, List.length_cons, List.length_nil, vcM, List.getElem?_toArray, List.getElem?_cons_zero, List.getElem?_cons_succ])
  refine callV_ret (between2_ok ((w1.alloc (.cells (bv [118, 169, 20]).toArray 5)).alloc (.cells (bv [136, 172]).toArray 5)) y _ _ s [118, 169, 20] [136, 172] 20 (hy.ext ((lE _ _).ext (lE _ _))) ((lit w1 [118, 169, 20] (by simp)).ext (lE _ _)) (lit' _ _ [136, 172] (by simp)) hb (by intro z hz; simp at hz; omega) (by intro z hz; simp at hz; omega) (by omega)) ?_
  rintro _ w2 ⟨h, ok, rfl, hbet, hw2⟩
  have hE2 : Ext w1 w2 := by rw [hw2]; exact (lE _ _).ext (lE _ _)
  clear hw2
  simp (disch := first | omega | assumption | rfl | (simp only [vcS] <;> omega) | fail) only [↓ptV_l, ↓vcA, vcB, ↓vcD, vcE, ↓reduceIte, Nat.reduceEqDiff, Nat.reduceAdd, Nat.reduceMul, Nat.reduceLeDiff, Int.reduceLE, Int.reduceLT, Int.reduceEq, Int.reduceToNat, Int.reduceAdd, Int.reduceSub, Int.reduceMul, Int.reduceNeg, reduceCtorEq, Option.bind_some, Option.map_some, List.length_cons, List.length_nil, vcM, List.getElem?_toArray, List.getElem?_cons_zero, List.getElem?_cons_succ]
  (refine W_at c20_ok ?_; refine ⟨_, rfl, ?_⟩; simp (disch := first | omega | assumption | rfl | (simp only [vcS] <;> omega) | fail) only [↓ptV_l, ↓vcA, vcB, ↓vcD, vcE, ↓reduceIte, Nat.reduceEqDiff, Nat.reduceAdd, Nat.reduceMul, Nat.reduceLeDiff, Int.reduceLE, Int.reduceLT, Int.reduceEq, Int.reduceToNat, Int.reduceAdd, Int.reduceSub, Int.reduceMul, Int.reduceNeg, reduceCtorEq, Option.bind_some, Option.map_some, List.length_cons, List.length_nil, vcM, List.getElem?_toArray, List.getElem?_cons_zero, List.getElem?_cons_succ])
  cases hB1 : betF s [118, 169, 20] [136, 172] 20 with
  | some m =>
    rw [hB1] at hbet
    obtain ⟨rfl, hP⟩ := hbet
    have hRh := (hP w2).1 (hy.ext hE2)
    have hOh := (hP w2).2 (hyB.ext hE2)
    have hbase : w.heap.size ≤ w2.heap.size := (hE1.ext hE2).size
    have hc1 := hone hRh
    (refine W_at c20_ok ?_; refine ⟨_, rfl, ?_⟩; simp (disch := first | omega | assumption | rfl | (simp only [vcS] <;> omega) | fail) only [↓ptV_l, ↓vcA, vcB, ↓vcD, vcE, ↓reduceIte, Nat.reduceEqDiff, Nat.reduceAdd, Nat.reduceMul, Nat.reduceLeDiff, Int.reduceLE, Int.reduceLT, Int.reduceEq, Int.reduceToNat, Int.reduceAdd, Int.reduceSub, Int.reduceMul, Int.reduceNeg, reduceCtorEq, Option.bind_some, Option.map_some, List.length_cons, List.length_nil, vcM, List.getElem?_toArray, List.getElem?_cons_zero, List.getElem?_cons_succ])
    (refine W_at c20_ok ?_; refine ⟨_, rfl, ?_⟩; simp (disch := first | omega | assumption | rfl | (simp only [vcS] <;> omega) | fail) only [↓ptV_l, ↓vcA, vcB, ↓vcD, vcE, ↓reduceIte, Nat.reduceEqDiff, Nat.reduceAdd, Nat.reduceMul, Nat.reduceLeDiff, Int.reduceLE, Int.reduceLT, Int.reduceEq, Int.reduceToNat, Int.reduceAdd, Int.reduceSub, Int.reduceMul, Int.reduceNeg, reduceCtorEq, Option.bind_some, Option.map_some, List.length_cons, List.length_nil, vcM, List.getElem?_toArray, List.getElem?_cons_zero, List.getElem?_cons_succ, hc1])
    (refine W_at c20_ok ?_; refine ⟨_, rfl, ?_⟩; simp (disch := first | omega | assumption | rfl | (simp only [vcS] <;> omega) | fail) only [↓ptV_l, ↓vcA, vcB, ↓vcD, vcE, ↓reduceIte, Nat.reduceEqDiff, Nat.reduceAdd, Nat.reduceMul, Nat.reduceLeDiff, Int.reduceLE, Int.reduceLT, Int.reduceEq, Int.reduceToNat, Int.reduceAdd, Int.reduceSub, Int.reduceMul, Int.reduceNeg, reduceCtorEq, Option.bind_some, Option.map_some, List.length_cons, List.length_nil, vcM, List.getElem?_toArray, List.getElem?_cons_zero, List.getElem?_cons_succ, Ret_returned])
    refine ⟨_, _, ?_, by rw [kindG, hB1]; rfl, PtsB.lit1 hOh.1 (fun g hg => hn1 g (hOh.2 g hg)) hbase, (hE1.ext hE2).alloc _⟩
    rw [kindG, hB1]
  | none =>
  rw [hB1] at hbet
  have hok : ok = false := hbet
  subst hok
  (refine W_at c20_ok ?_; refine ⟨_, rfl, ?_⟩; simp (disch := first | omega | assumption | rfl | (simp only [vcS] <;> omega) | fail) only [↓ptV_l, ↓vcA, vcB, ↓vcD, vcE, ↓reduceIte, Nat.reduceEqDiff, Nat.reduceAdd, Nat.reduceMul, Nat.reduceLeDiff, Int.reduceLE, Int.reduceLT, Int.reduceEq, Int.reduceToNat, Int.reduceAdd, Int.reduceSub, Int.reduceMul, Int.reduceNeg, reduceCtorEq, Option.bind_some, Option.map_some, List.length_cons, List.length_nil, vcM, List.getElem?_toArray, List.getElem?_cons_zero, List.getElem?_cons_succ])
  -- a script's hash
  (refine W_at c20_ok ?_; refine ⟨_, rfl, ?_⟩; simp (disch := first | omega | assumption | rfl | (simp only [vcS] <;> omega) | fail) only [↓ptV_l, ↓vcA, vcB, ↓vcD, vcE, ↓reduceIte, Nat.reduceEqDiff, Nat.reduceAdd, Nat.reduceMul, Nat.reduceLeDiff, Int.reduceLE, Int.reduceLT, Int.reduceEq, Int.reduceToNat, Int.reduceAdd, Int.reduceSub, Int.reduceMul, Int.reduceNeg, reduceCtorEq, Option.bind_some, Option.map_some, List.length_cons, List.length_nil, vcM, List.getElem?_toArray, List.getElem?_cons_zero, List.getElem?_cons_succ])
  refine callV_ret (between2_ok ((w2.alloc (.cells (bv [169, 20]).toArray 5)).alloc (.cells (bv [135]).toArray 5)) y _ _ s [169, 20] [135] 20 (hy.ext (hE2.ext ((lE _ _).ext (lE _ _)))) ((lit w2 [169, 20] (by simp)).ext (lE _ _)) (lit' _ _ [135] (by simp)) hb (by intro z hz; simp at hz; omega) (by intro z hz; simp at hz; omega) (by omega)) ?_
  rintro _ w3 ⟨h2, ok2, rfl, hbet2, hw3⟩
  have hE3 : Ext w1 w3 := by rw [hw3]; exact hE2.ext ((lE _ _).ext (lE _ _))
  clear hw3 hE2
  simp (disch := first | omega | assumption | rfl | (simp only [vcS] <;> omega) | fail) only [↓ptV_l, ↓vcA, vcB, ↓vcD, vcE, ↓reduceIte, Nat.reduceEqDiff, Nat.reduceAdd, Nat.reduceMul, Nat.reduceLeDiff, Int.reduceLE, Int.reduceLT, Int.reduceEq, Int.reduceToNat, Int.reduceAdd, Int.reduceSub, Int.reduceMul, Int.reduceNeg, reduceCtorEq, Option.bind_some, Option.map_some, List.length_cons, List.length_nil, vcM, List.getElem?_toArray, List.getElem?_cons_zero, List.getElem?_cons_succ]
  (refine W_at c20_ok ?_; refine ⟨_, rfl, ?_⟩; simp (disch := first | omega | assumption | rfl | (simp only [vcS] <;> omega) | fail) only [↓ptV_l, ↓vcA, vcB, ↓vcD, vcE, ↓reduceIte, Nat.reduceEqDiff, Nat.reduceAdd, Nat.reduceMul, Nat.reduceLeDiff, Int.reduceLE, Int.reduceLT, Int.reduceEq, Int.reduceToNat, Int.reduceAdd, Int.reduceSub, Int.reduceMul, Int.reduceNeg, reduceCtorEq, Option.bind_some, Option.map_some, List.length_cons, List.length_nil, vcM, List.getElem?_toArray, List.getElem?_cons_zero, List.getElem?_cons_succ])
  cases hB2 : betF s [169, 20] [135] 20 with
  | some m =>
    rw [hB2] at hbet2
    obtain ⟨rfl, hP⟩ := hbet2
    have hRh := (hP w3).1 (hy.ext hE3)
    have hOh := (hP w3).2 (hyB.ext hE3)
    have hbase : w.heap.size ≤ w3.heap.size := (hE1.ext hE3).size
    have hc1 := hone hRh
    (refine W_at c20_ok ?_; refine ⟨_, rfl, ?_⟩; simp (disch := first | omega | assumption | rfl | (simp only [vcS] <;> omega) | fail) only [↓ptV_l, ↓vcA, vcB, ↓vcD, vcE, ↓reduceIte, Nat.reduceEqDiff, Nat.reduceAdd, Nat.reduceMul, Nat.reduceLeDiff, Int.reduceLE, Int.reduceLT, Int.reduceEq, Int.reduceToNat, Int.reduceAdd, Int.reduceSub, Int.reduceMul, Int.reduceNeg, reduceCtorEq, Option.bind_some, Option.map_some, List.length_cons, List.length_nil, vcM, List.getElem?_toArray, List.getElem?_cons_zero, List.getElem?_cons_succ])
    (refine W_at c20_ok ?_; refine ⟨_, rfl, ?_⟩; simp (disch := first | omega | assumption | rfl | (simp only [vcS] <;> omega) | fail) only [↓ptV_l, ↓vcA, vcB, ↓vcD, vcE, ↓reduceIte, Nat.reduceEqDiff, Nat.reduceAdd, Nat.reduceMul, Nat.reduceLeDiff, Int.reduceLE, Int.reduceLT, Int.reduceEq, Int.reduceToNat, Int.reduceAdd, Int.reduceSub, Int.reduceMul, Int.reduceNeg, reduceCtorEq, Option.bind_some, Option.map_some, List.length_cons, List.length_nil, vcM, List.getElem?_toArray, List.getElem?_cons_zero, List.getElem?_cons_succ, hc1])
    (refine W_at c20_ok ?_; refine ⟨_, rfl, ?_⟩; simp (disch := first | omega | assumption | rfl | (simp only [vcS] <;> omega) | fail) only [↓ptV_l, ↓vcA, vcB, ↓vcD, vcE, ↓reduceIte, Nat.reduceEqDiff, Nat.reduceAdd, Nat.reduceMul, Nat.reduceLeDiff, Int.reduceLE, Int.reduceLT, Int.reduceEq, Int.reduceToNat, Int.reduceAdd, Int.reduceSub, Int.reduceMul, Int.reduceNeg, reduceCtorEq, Option.bind_some, Option.map_some, List.length_cons, List.length_nil, vcM, List.getElem?_toArray, List.getElem?_cons_zero, List.getElem?_cons_succ, Ret_returned])
    refine ⟨_, _, ?_, by rw [kindG, hB1, hB2]; rfl, PtsB.lit1 hOh.1 (fun g hg => hn1 g (hOh.2 g hg)) hbase, (hE1.ext hE3).alloc _⟩
    rw [kindG, hB1, hB2]
  | none =>
  rw [hB2] at hbet2
  have hok2 : ok2 = false := hbet2
  subst hok2
  (refine W_at c20_ok ?_; refine ⟨_, rfl, ?_⟩; simp (disch := first | omega | assumption | rfl | (simp only [vcS] <;> omega) | fail) only [↓ptV_l, ↓vcA, vcB, ↓vcD, vcE, ↓reduceIte, Nat.reduceEqDiff, Nat.reduceAdd, Nat.reduceMul, Nat.reduceLeDiff, Int.reduceLE, Int.reduceLT, Int.reduceEq, Int.reduceToNat, Int.reduceAdd, Int.reduceSub, Int.reduceMul, Int.reduceNeg, reduceCtorEq, Option.bind_some, Option.map_some, List.length_cons, List.length_nil, vcM, List.getElem?_toArray, List.getElem?_cons_zero, List.getElem?_cons_succ])
  -- a program
  (refine W_at c20_ok ?_; refine ⟨_, rfl, ?_⟩; simp (disch := first | omega | assumption | rfl | (simp only [vcS] <;> omega) | fail) only [↓ptV_l, ↓vcA, vcB, ↓vcD, vcE, ↓reduceIte, Nat.reduceEqDiff, Nat.reduceAdd, Nat.reduceMul, Nat.reduceLeDiff, Int.reduceLE, Int.reduceLT, Int.reduceEq, Int.reduceToNat, Int.reduceAdd, Int.reduceSub, Int.reduceMul, Int.reduceNeg, reduceCtorEq, Option.bind_some, Option.map_some, List.length_cons, List.length_nil, vcM, List.getElem?_toArray, List.getElem?_cons_zero, List.getElem?_cons_succ])
  refine callV_ret (program_ok w3 y s (hy.ext hE3) hb (by omega)) ?_
  rintro _ w4 ⟨v, d, ok3, rfl, hE4, hpr⟩
  have hE14 := hE3.ext hE4
  simp (disch := first | omega | assumption | rfl | (simp only [vcS] <;> omega) | fail) only [↓ptV_l, ↓vcA, vcB, ↓vcD, vcE, ↓reduceIte, Nat.reduceEqDiff, Nat.reduceAdd, Nat.reduceMul, Nat.reduceLeDiff, Int.reduceLE, Int.reduceLT, Int.reduceEq, Int.reduceToNat, Int.reduceAdd, Int.reduceSub, Int.reduceMul, Int.reduceNeg, reduceCtorEq, Option.bind_some, Option.map_some, List.length_cons, List.length_nil, vcM, List.getElem?_toArray, List.getElem?_cons_zero, List.getElem?_cons_succ]
  (refine W_at c20_ok ?_; refine ⟨_, rfl, ?_⟩; simp (disch := first | omega | assumption | rfl | (simp only [vcS] <;> omega) | fail) only [↓ptV_l, ↓vcA, vcB, ↓vcD, vcE, ↓reduceIte, Nat.reduceEqDiff, Nat.reduceAdd, Nat.reduceMul, Nat.reduceLeDiff, Int.reduceLE, Int.reduceLT, Int.reduceEq, Int.reduceToNat, Int.reduceAdd, Int.reduceSub, Int.reduceMul, Int.reduceNeg, reduceCtorEq, Option.bind_some, Option.map_some, List.length_cons, List.length_nil, vcM, List.getElem?_toArray, List.getElem?_cons_zero, List.getElem?_cons_succ])
  cases hB3 : progF s with
  | some vp =>
    obtain ⟨v', p⟩ := vp
    rw [hB3] at hpr
    obtain ⟨rfl, rfl, hOd, hnd⟩ := hpr
    have hRd := hOd.rd
    have hbase : w.heap.size ≤ w4.heap.size := (hE1.ext hE14).size
    have hb3 : w.heap.size ≤ w3.heap.size := (hE1.ext hE3).size
    have hndw : ∀ g, blk d g → w.heap.size ≤ g := fun g hg => Nat.le_trans hb3 (hnd g hg)
    have hcd := hone hRd
    have hdl := hRd.len
    have hv := hB3
    have hkind : kindG s = if v = 0 ∧ p.length = 20 then (3, [p]) else if v = 0 ∧ p.length = 32 then (4, [p]) else (7, [[v], p]) := by rw [kindG, hB1, hB2, hB3]
    have hvr : 0 ≤ v ∧ v ≤ 16 := by
      unfold progF at hB3
      split at hB3
      · split at hB3
        · rename_i a b t hcnd
          simp only [Option.some.injEq, Prod.mk.injEq] at hB3
          have := smallF_r a
          omega
        · cases hB3
      · cases hB3
    have hwv : IntKind.u8.wrap v = v := by rw [wrap_u8]; omega
    have hother : (¬ (v = 0 ∧ p.length = 20)) → ¬ (v = 0 ∧ p.length = 32) → ∀ (tl : Env), W Try.prog (Ret fun u w' => KindOwn w w' s u) 20 14 ((8, .int .i64 v) :: (9, d) :: tl) w4 := by
      intro n1 n2 tl
      have hs1 : (#[.slice (some ⟨w4.heap.size, 0, none⟩) 1 1] : Array Value).size = 1 := rfl
      have hcs : Value.cells (.slice (some ⟨w4.heap.size, 0, none⟩) 1 1) = #[.slice (some ⟨w4.heap.size, 0, none⟩) 1 1] := rfl
      (refine W_at c20_ok ?_; refine ⟨_, rfl, ?_⟩; simp (disch := first | omega | assumption | rfl | (simp only [vcS] <;> omega) | fail) only [↓ptV_l, ↓vcA, vcB, ↓vcD, vcE, ↓reduceIte, Nat.reduceEqDiff, Nat.reduceAdd, Nat.reduceMul, Nat.reduceLeDiff, Int.reduceLE, Int.reduceLT, Int.reduceEq, Int.reduceToNat, Int.reduceAdd, Int.reduceSub, Int.reduceMul, Int.reduceNeg, reduceCtorEq, Option.bind_some, Option.map_some, List.length_cons, List.length_nil, vcM, List.getElem?_toArray, List.getElem?_cons_zero, List.getElem?_cons_succ, hwv, hcd, hcs])
      (refine W_at c20_ok ?_; refine ⟨_, rfl, ?_⟩; simp (disch := first | omega | assumption | rfl | (simp only [vcS] <;> omega) | fail) only [↓ptV_l, ↓vcA, vcB, ↓vcD, vcE, ↓reduceIte, Nat.reduceEqDiff, Nat.reduceAdd, Nat.reduceMul, Nat.reduceLeDiff, Int.reduceLE, Int.reduceLT, Int.reduceEq, Int.reduceToNat, Int.reduceAdd, Int.reduceSub, Int.reduceMul, Int.reduceNeg, reduceCtorEq, Option.bind_some, Option.map_some, List.length_cons, List.length_nil, vcM, List.getElem?_toArray, List.getElem?_cons_zero, List.getElem?_cons_succ, Ret_returned])
      have hl1 : OwnB (w4.alloc (.cells (bv [v]).toArray 5)) (.slice (some ⟨w4.heap.size, 0, none⟩) 1 1) [v] := (own_lit1 (w := w4) (bs := [v]) (by show 1 ≤ 9223372036854775807; decide)).b
      have hp2 := PtsB.lit2 (m := w.heap.size) hl1 ((hOd.ext (lE w4 [v])).b) (fun g hg => by cases hg; exact hbase) hndw (fun g h1 h2 => by have e : w4.heap.size = g := Option.some.inj h1; have := hOd.lt h2; omega) (by rw [size_alloc]; omega)
      rw [size_alloc] at hp2
      refine ⟨_, _, ?_, by rw [hkind, if_neg n1, if_neg n2]; rfl, hp2, ((hE1.ext hE14).ext (lE w4 [v])).alloc _⟩
      rw [hkind, if_neg n1, if_neg n2]
    (refine W_at c20_ok ?_; refine ⟨_, rfl, ?_⟩; simp (disch := first | omega | assumption | rfl | (simp only [vcS] <;> omega) | fail) only [↓ptV_l, ↓vcA, vcB, ↓vcD, vcE, ↓reduceIte, Nat.reduceEqDiff, Nat.reduceAdd, Nat.reduceMul, Nat.reduceLeDiff, Int.reduceLE, Int.reduceLT, Int.reduceEq, Int.reduceToNat, Int.reduceAdd, Int.reduceSub, Int.reduceMul, Int.reduceNeg, reduceCtorEq, Option.bind_some, Option.map_some, List.length_cons, List.length_nil, vcM, List.getElem?_toArray, List.getElem?_cons_zero, List.getElem?_cons_succ])
    by_cases hv0 : v = 0
    · by_cases h20 : p.length = 20
      · have hd20 : ((p.length : Nat) : Int) = 20 := by omega
        (refine W_at c20_ok ?_; refine ⟨_, rfl, ?_⟩; simp (disch := first | omega | assumption | rfl | (simp only [vcS] <;> omega) | fail) only [↓ptV_l, ↓vcA, vcB, ↓vcD, vcE, ↓reduceIte, Nat.reduceEqDiff, Nat.reduceAdd, Nat.reduceMul, Nat.reduceLeDiff, Int.reduceLE, Int.reduceLT, Int.reduceEq, Int.reduceToNat, Int.reduceAdd, Int.reduceSub, Int.reduceMul, Int.reduceNeg, reduceCtorEq, Option.bind_some, Option.map_some, List.length_cons, List.length_nil, vcM, List.getElem?_toArray, List.getElem?_cons_zero, List.getElem?_cons_succ, hv0, hdl, hd20])
        (refine W_at c20_ok ?_; refine ⟨_, rfl, ?_⟩; simp (disch := first | omega | assumption | rfl | (simp only [vcS] <;> omega) | fail) only [↓ptV_l, ↓vcA, vcB, ↓vcD, vcE, ↓reduceIte, Nat.reduceEqDiff, Nat.reduceAdd, Nat.reduceMul, Nat.reduceLeDiff, Int.reduceLE, Int.reduceLT, Int.reduceEq, Int.reduceToNat, Int.reduceAdd, Int.reduceSub, Int.reduceMul, Int.reduceNeg, reduceCtorEq, Option.bind_some, Option.map_some, List.length_cons, List.length_nil, vcM, List.getElem?_toArray, List.getElem?_cons_zero, List.getElem?_cons_succ])
        (refine W_at c20_ok ?_; refine ⟨_, rfl, ?_⟩; simp (disch := first | omega | assumption | rfl | (simp only [vcS] <;> omega) | fail) only [↓ptV_l, ↓vcA, vcB, ↓vcD, vcE, ↓reduceIte, Nat.reduceEqDiff, Nat.reduceAdd, Nat.reduceMul, Nat.reduceLeDiff, Int.reduceLE, Int.reduceLT, Int.reduceEq, Int.reduceToNat, Int.reduceAdd, Int.reduceSub, Int.reduceMul, Int.reduceNeg, reduceCtorEq, Option.bind_some, Option.map_some, List.length_cons, List.length_nil, vcM, List.getElem?_toArray, List.getElem?_cons_zero, List.getElem?_cons_succ, hcd])
        (refine W_at c20_ok ?_; refine ⟨_, rfl, ?_⟩; simp (disch := first | omega | assumption | rfl | (simp only [vcS] <;> omega) | fail) only [↓ptV_l, ↓vcA, vcB, ↓vcD, vcE, ↓reduceIte, Nat.reduceEqDiff, Nat.reduceAdd, Nat.reduceMul, Nat.reduceLeDiff, Int.reduceLE, Int.reduceLT, Int.reduceEq, Int.reduceToNat, Int.reduceAdd, Int.reduceSub, Int.reduceMul, Int.reduceNeg, reduceCtorEq, Option.bind_some, Option.map_some, List.length_cons, List.length_nil, vcM, List.getElem?_toArray, List.getElem?_cons_zero, List.getElem?_cons_succ, Ret_returned])
        refine ⟨_, _, ?_, by rw [hkind, if_pos ⟨hv0, h20⟩]; rfl, PtsB.lit1 hOd.b hndw hbase, (hE1.ext hE14).alloc _⟩
        rw [hkind, if_pos ⟨hv0, h20⟩]
      · have hd20 : ¬ ((p.length : Nat) : Int) = 20 := by omega
        by_cases h32 : p.length = 32
        · have hd32 : ((p.length : Nat) : Int) = 32 := by omega
          (refine W_at c20_ok ?_; refine ⟨_, rfl, ?_⟩; simp (disch := first | omega | assumption | rfl | (simp only [vcS] <;> omega) | fail) only [↓ptV_l, ↓vcA, vcB, ↓vcD, vcE, ↓reduceIte, Nat.reduceEqDiff, Nat.reduceAdd, Nat.reduceMul, Nat.reduceLeDiff, Int.reduceLE, Int.reduceLT, Int.reduceEq, Int.reduceToNat, Int.reduceAdd, Int.reduceSub, Int.reduceMul, Int.reduceNeg, reduceCtorEq, Option.bind_some, Option.map_some, List.length_cons, List.length_nil, vcM, List.getElem?_toArray, List.getElem?_cons_zero, List.getElem?_cons_succ, hv0, hdl, hd20])
          (refine W_at c20_ok ?_; refine ⟨_, rfl, ?_⟩; simp (disch := first | omega | assumption | rfl | (simp only [vcS] <;> omega) | fail) only [↓ptV_l, ↓vcA, vcB, ↓vcD, vcE, ↓reduceIte, Nat.reduceEqDiff, Nat.reduceAdd, Nat.reduceMul, Nat.reduceLeDiff, Int.reduceLE, Int.reduceLT, Int.reduceEq, Int.reduceToNat, Int.reduceAdd, Int.reduceSub, Int.reduceMul, Int.reduceNeg, reduceCtorEq, Option.bind_some, Option.map_some, List.length_cons, List.length_nil, vcM, List.getElem?_toArray, List.getElem?_cons_zero, List.getElem?_cons_succ])
          (refine W_at c20_ok ?_; refine ⟨_, rfl, ?_⟩; simp (disch := first | omega | assumption | rfl | (simp only [vcS] <;> omega) | fail) only [↓ptV_l, ↓vcA, vcB, ↓vcD, vcE, ↓reduceIte, Nat.reduceEqDiff, Nat.reduceAdd, Nat.reduceMul, Nat.reduceLeDiff, Int.reduceLE, Int.reduceLT, Int.reduceEq, Int.reduceToNat, Int.reduceAdd, Int.reduceSub, Int.reduceMul, Int.reduceNeg, reduceCtorEq, Option.bind_some, Option.map_some, List.length_cons, List.length_nil, vcM, List.getElem?_toArray, List.getElem?_cons_zero, List.getElem?_cons_succ, hv0, hdl, hd32])
          (refine W_at c20_ok ?_; refine ⟨_, rfl, ?_⟩; simp (disch := first | omega | assumption | rfl | (simp only [vcS] <;> omega) | fail) only [↓ptV_l, ↓vcA, vcB, ↓vcD, vcE, ↓reduceIte, Nat.reduceEqDiff, Nat.reduceAdd, Nat.reduceMul, Nat.reduceLeDiff, Int.reduceLE, Int.reduceLT, Int.reduceEq, Int.reduceToNat, Int.reduceAdd, Int.reduceSub, Int.reduceMul, Int.reduceNeg, reduceCtorEq, Option.bind_some, Option.map_some, List.length_cons, List.length_nil, vcM, List.getElem?_toArray, List.getElem?_cons_zero, List.getElem?_cons_succ])
          (refine W_at c20_ok ?_; refine ⟨_, rfl, ?_⟩; simp (disch := first | omega | assumption | rfl | (simp only [vcS] <;> omega) | fail) only [↓ptV_l, ↓vcA, vcB, ↓vcD, vcE, ↓reduceIte, Nat.reduceEqDiff, Nat.reduceAdd, Nat.reduceMul, Nat.reduceLeDiff, Int.reduceLE, Int.reduceLT, Int.reduceEq, Int.reduceToNat, Int.reduceAdd, Int.reduceSub, Int.reduceMul, Int.reduceNeg, reduceCtorEq, Option.bind_some, Option.map_some, List.length_cons, List.length_nil, vcM, List.getElem?_toArray, List.getElem?_cons_zero, List.getElem?_cons_succ, hcd])
          (refine W_at c20_ok ?_; refine ⟨_, rfl, ?_⟩; simp (disch := first | omega | assumption | rfl | (simp only [vcS] <;> omega) | fail) only [↓ptV_l, ↓vcA, vcB, ↓vcD, vcE, ↓reduceIte, Nat.reduceEqDiff, Nat.reduceAdd, Nat.reduceMul, Nat.reduceLeDiff, Int.reduceLE, Int.reduceLT, Int.reduceEq, Int.reduceToNat, Int.reduceAdd, Int.reduceSub, Int.reduceMul, Int.reduceNeg, reduceCtorEq, Option.bind_some, Option.map_some, List.length_cons, List.length_nil, vcM, List.getElem?_toArray, List.getElem?_cons_zero, List.getElem?_cons_succ, Ret_returned])
          refine ⟨_, _, ?_, by rw [hkind, if_neg (fun h => h20 h.2), if_pos ⟨hv0, h32⟩]; rfl, PtsB.lit1 hOd.b hndw hbase, (hE1.ext hE14).alloc _⟩
          rw [hkind, if_neg (fun h => h20 h.2), if_pos ⟨hv0, h32⟩]
        · have hd32 : ¬ ((p.length : Nat) : Int) = 32 := by omega
          (refine W_at c20_ok ?_; refine ⟨_, rfl, ?_⟩; simp (disch := first | omega | assumption | rfl | (simp only [vcS] <;> omega) | fail) only [↓ptV_l, ↓vcA, vcB, ↓vcD, vcE, ↓reduceIte, Nat.reduceEqDiff, Nat.reduceAdd, Nat.reduceMul, Nat.reduceLeDiff, Int.reduceLE, Int.reduceLT, Int.reduceEq, Int.reduceToNat, Int.reduceAdd, Int.reduceSub, Int.reduceMul, Int.reduceNeg, reduceCtorEq, Option.bind_some, Option.map_some, List.length_cons, List.length_nil, vcM, List.getElem?_toArray, List.getElem?_cons_zero, List.getElem?_cons_succ, hv0, hdl, hd20])
          (refine W_at c20_ok ?_; refine ⟨_, rfl, ?_⟩; simp (disch := first | omega | assumption | rfl | (simp only [vcS] <;> omega) | fail) only [↓ptV_l, ↓vcA, vcB, ↓vcD, vcE, ↓reduceIte, Nat.reduceEqDiff, Nat.reduceAdd, Nat.reduceMul, Nat.reduceLeDiff, Int.reduceLE, Int.reduceLT, Int.reduceEq, Int.reduceToNat, Int.reduceAdd, Int.reduceSub, Int.reduceMul, Int.reduceNeg, reduceCtorEq, Option.bind_some, Option.map_some, List.length_cons, List.length_nil, vcM, List.getElem?_toArray, List.getElem?_cons_zero, List.getElem?_cons_succ])
          (refine W_at c20_ok ?_; refine ⟨_, rfl, ?_⟩; simp (disch := first | omega | assumption | rfl | (simp only [vcS] <;> omega) | fail) only [↓ptV_l, ↓vcA, vcB, ↓vcD, vcE, ↓reduceIte, Nat.reduceEqDiff, Nat.reduceAdd, Nat.reduceMul, Nat.reduceLeDiff, Int.reduceLE, Int.reduceLT, Int.reduceEq, Int.reduceToNat, Int.reduceAdd, Int.reduceSub, Int.reduceMul, Int.reduceNeg, reduceCtorEq, Option.bind_some, Option.map_some, List.length_cons, List.length_nil, vcM, List.getElem?_toArray, List.getElem?_cons_zero, List.getElem?_cons_succ, hv0, hdl, hd32])
          (refine W_at c20_ok ?_; refine ⟨_, rfl, ?_⟩; simp (disch := first | omega | assumption | rfl | (simp only [vcS] <;> omega) | fail) only [↓ptV_l, ↓vcA, vcB, ↓vcD, vcE, ↓reduceIte, Nat.reduceEqDiff, Nat.reduceAdd, Nat.reduceMul, Nat.reduceLeDiff, Int.reduceLE, Int.reduceLT, Int.reduceEq, Int.reduceToNat, Int.reduceAdd, Int.reduceSub, Int.reduceMul, Int.reduceNeg, reduceCtorEq, Option.bind_some, Option.map_some, List.length_cons, List.length_nil, vcM, List.getElem?_toArray, List.getElem?_cons_zero, List.getElem?_cons_succ])
          have := hother (fun h => h20 h.2) (fun h => h32 h.2) [(53, .bool false)]
          rw [hv0] at this
          exact this
    · (refine W_at c20_ok ?_; refine ⟨_, rfl, ?_⟩; simp (disch := first | omega | assumption | rfl | (simp only [vcS] <;> omega) | fail) only [↓ptV_l, ↓vcA, vcB, ↓vcD, vcE, ↓reduceIte, Nat.reduceEqDiff, Nat.reduceAdd, Nat.reduceMul, Nat.reduceLeDiff, Int.reduceLE, Int.reduceLT, Int.reduceEq, Int.reduceToNat, Int.reduceAdd, Int.reduceSub, Int.reduceMul, Int.reduceNeg, reduceCtorEq, Option.bind_some, Option.map_some, List.length_cons, List.length_nil, vcM, List.getElem?_toArray, List.getElem?_cons_zero, List.getElem?_cons_succ, hv0])
      (refine W_at c20_ok ?_; refine ⟨_, rfl, ?_⟩; simp (disch := first | omega | assumption | rfl | (simp only [vcS] <;> omega) | fail) only [↓ptV_l, ↓vcA, vcB, ↓vcD, vcE, ↓reduceIte, Nat.reduceEqDiff, Nat.reduceAdd, Nat.reduceMul, Nat.reduceLeDiff, Int.reduceLE, Int.reduceLT, Int.reduceEq, Int.reduceToNat, Int.reduceAdd, Int.reduceSub, Int.reduceMul, Int.reduceNeg, reduceCtorEq, Option.bind_some, Option.map_some, List.length_cons, List.length_nil, vcM, List.getElem?_toArray, List.getElem?_cons_zero, List.getElem?_cons_succ])
      (refine W_at c20_ok ?_; refine ⟨_, rfl, ?_⟩; simp (disch := first | omega | assumption | rfl | (simp only [vcS] <;> omega) | fail) only [↓ptV_l, ↓vcA, vcB, ↓vcD, vcE, ↓reduceIte, Nat.reduceEqDiff, Nat.reduceAdd, Nat.reduceMul, Nat.reduceLeDiff, Int.reduceLE, Int.reduceLT, Int.reduceEq, Int.reduceToNat, Int.reduceAdd, Int.reduceSub, Int.reduceMul, Int.reduceNeg, reduceCtorEq, Option.bind_some, Option.map_some, List.length_cons, List.length_nil, vcM, List.getElem?_toArray, List.getElem?_cons_zero, List.getElem?_cons_succ, hv0])
      (refine W_at c20_ok ?_; refine ⟨_, rfl, ?_⟩; simp (disch := first | omega | assumption | rfl | (simp only [vcS] <;> omega) | fail) only [↓ptV_l, ↓vcA, vcB, ↓vcD, vcE, ↓reduceIte, Nat.reduceEqDiff, Nat.reduceAdd, Nat.reduceMul, Nat.reduceLeDiff, Int.reduceLE, Int.reduceLT, Int.reduceEq, Int.reduceToNat, Int.reduceAdd, Int.reduceSub, Int.reduceMul, Int.reduceNeg, reduceCtorEq, Option.bind_some, Option.map_some, List.length_cons, List.length_nil, vcM, List.getElem?_toArray, List.getElem?_cons_zero, List.getElem?_cons_succ])
      exact hother (fun h => hv0 h.1) (fun h => hv0 h.1) _
  | none =>
  rw [hB3] at hpr
  obtain ⟨rfl, rfl, rfl⟩ := hpr
  (refine W_at c20_ok ?_; refine ⟨_, rfl, ?_⟩; simp (disch := first | omega | assumption | rfl | (simp only [vcS] <;> omega) | fail) only [↓ptV_l, ↓vcA, vcB, ↓vcD, vcE, ↓reduceIte, Nat.reduceEqDiff, Nat.reduceAdd, Nat.reduceMul, Nat.reduceLeDiff, Int.reduceLE, Int.reduceLT, Int.reduceEq, Int.reduceToNat, Int.reduceAdd, Int.reduceSub, Int.reduceMul, Int.reduceNeg, reduceCtorEq, Option.bind_some, Option.map_some, List.length_cons, List.length_nil, vcM, List.getElem?_toArray, List.getElem?_cons_zero, List.getElem?_cons_succ])
  (refine W_at c20_ok ?_; refine ⟨_, rfl, ?_⟩; simp (disch := first | omega | assumption | rfl | (simp only [vcS] <;> omega) | fail) only [↓ptV_l, ↓vcA, vcB, ↓vcD, vcE, ↓reduceIte, Nat.reduceEqDiff, Nat.reduceAdd, Nat.reduceMul, Nat.reduceLeDiff, Int.reduceLE, Int.reduceLT, Int.reduceEq, Int.reduceToNat, Int.reduceAdd, Int.reduceSub, Int.reduceMul, Int.reduceNeg, reduceCtorEq, Option.bind_some, Option.map_some, List.length_cons, List.length_nil, vcM, List.getElem?_toArray, List.getElem?_cons_zero, List.getElem?_cons_succ])
  refine callV_ret (multi_ok w4 y s (hy.ext hE14) hb hl) ?_
  rintro vm w5 ⟨hE5, hmm⟩
  have hE15 := hE14.ext hE5
  cases hM : multiF s with
  | some ps =>
    rw [hM] at hmm
    obtain ⟨ts, hts, hPm⟩ := hmm
    have hne : ∃ g c, vm = .slice (some g) ts.length c := by
      rcases hPm.row.2 with ⟨e, h0⟩ | ⟨g, cap, cur, e, _⟩
      · exfalso
        have : ts = [] := List.eq_nil_of_length_eq_zero h0
        rw [this] at hts
        rw [← hts] at hM
        unfold multiF at hM
        split at hM
        · cases hM
        · split at hM
          · cases hM
          · cases hM
      · exact ⟨_, _, e⟩
    obtain ⟨gm, cm, rfl⟩ := hne
    have hbase : w.heap.size ≤ w4.heap.size := (hE1.ext hE14).size
    first | (simp (disch := first | omega | assumption | rfl | (simp only [vcS] <;> omega) | fail) only [↓ptV_l, ↓vcA, vcB, ↓vcD, vcE, ↓reduceIte, Nat.reduceEqDiff, Nat.reduceAdd, Nat.reduceMul, Nat.reduceLeDiff, Int.reduceLE, Int.reduceLT, Int.reduceEq, Int.reduceToNat, Int.reduceAdd, Int.reduceSub, Int.reduceMul, Int.reduceNeg, reduceCtorEq, Option.bind_some, Option.map_some, List.length_cons, List.length_nil, vcM, List.getElem?_toArray, List.getElem?_cons_zero, List.getElem?_cons_succ]) | skip
    (refine W_at c20_ok ?_; refine ⟨_, rfl, ?_⟩; simp (disch := first | omega | assumption | rfl | (simp only [vcS] <;> omega) | fail) only [↓ptV_l, ↓vcA, vcB, ↓vcD, vcE, ↓reduceIte, Nat.reduceEqDiff, Nat.reduceAdd, Nat.reduceMul, Nat.reduceLeDiff, Int.reduceLE, Int.reduceLT, Int.reduceEq, Int.reduceToNat, Int.reduceAdd, Int.reduceSub, Int.reduceMul, Int.reduceNeg, reduceCtorEq, Option.bind_some, Option.map_some, List.length_cons, List.length_nil, vcM, List.getElem?_toArray, List.getElem?_cons_zero, List.getElem?_cons_succ])
    (refine W_at c20_ok ?_; refine ⟨_, rfl, ?_⟩; simp (disch := first | omega | assumption | rfl | (simp only [vcS] <;> omega) | fail) only [↓ptV_l, ↓vcA, vcB, ↓vcD, vcE, ↓reduceIte, Nat.reduceEqDiff, Nat.reduceAdd, Nat.reduceMul, Nat.reduceLeDiff, Int.reduceLE, Int.reduceLT, Int.reduceEq, Int.reduceToNat, Int.reduceAdd, Int.reduceSub, Int.reduceMul, Int.reduceNeg, reduceCtorEq, Option.bind_some, Option.map_some, List.length_cons, List.length_nil, vcM, List.getElem?_toArray, List.getElem?_cons_zero, List.getElem?_cons_succ])
    (refine W_at c20_ok ?_; refine ⟨_, rfl, ?_⟩; simp (disch := first | omega | assumption | rfl | (simp only [vcS] <;> omega) | fail) only [↓ptV_l, ↓vcA, vcB, ↓vcD, vcE, ↓reduceIte, Nat.reduceEqDiff, Nat.reduceAdd, Nat.reduceMul, Nat.reduceLeDiff, Int.reduceLE, Int.reduceLT, Int.reduceEq, Int.reduceToNat, Int.reduceAdd, Int.reduceSub, Int.reduceMul, Int.reduceNeg, reduceCtorEq, Option.bind_some, Option.map_some, List.length_cons, List.length_nil, vcM, List.getElem?_toArray, List.getElem?_cons_zero, List.getElem?_cons_succ])
    (refine W_at c20_ok ?_; refine ⟨_, rfl, ?_⟩; simp (disch := first | omega | assumption | rfl | (simp only [vcS] <;> omega) | fail) only [↓ptV_l, ↓vcA, vcB, ↓vcD, vcE, ↓reduceIte, Nat.reduceEqDiff, Nat.reduceAdd, Nat.reduceMul, Nat.reduceLeDiff, Int.reduceLE, Int.reduceLT, Int.reduceEq, Int.reduceToNat, Int.reduceAdd, Int.reduceSub, Int.reduceMul, Int.reduceNeg, reduceCtorEq, Option.bind_some, Option.map_some, List.length_cons, List.length_nil, vcM, List.getElem?_toArray, List.getElem?_cons_zero, List.getElem?_cons_succ, Ret_returned])
    exact ⟨_, ts, by rw [kindG, hB1, hB2, hB3, hM], by rw [kindG, hB1, hB2, hB3, hM]; exact hts, hPm.b.base hbase, hE1.ext hE15⟩
  | none =>
  rw [hM] at hmm
  obtain rfl : vm = .slice none 0 0 := hmm
  have hq : eqSR true (.slice none 0 0) (.slice none 0 0) = some (.bool false) := rfl
  (refine W_at c20_ok ?_; refine ⟨_, rfl, ?_⟩; simp (disch := first | omega | assumption | rfl | (simp only [vcS] <;> omega) | fail) only [↓ptV_l, ↓vcA, vcB, ↓vcD, vcE, ↓reduceIte, Nat.reduceEqDiff, Nat.reduceAdd, Nat.reduceMul, Nat.reduceLeDiff, Int.reduceLE, Int.reduceLT, Int.reduceEq, Int.reduceToNat, Int.reduceAdd, Int.reduceSub, Int.reduceMul, Int.reduceNeg, reduceCtorEq, Option.bind_some, Option.map_some, List.length_cons, List.length_nil, vcM, List.getElem?_toArray, List.getElem?_cons_zero, List.getElem?_cons_succ, hq])
  (refine W_at c20_ok ?_; refine ⟨_, rfl, ?_⟩; simp (disch := first | omega | assumption | rfl | (simp only [vcS] <;> omega) | fail) only [↓ptV_l, ↓vcA, vcB, ↓vcD, vcE, ↓reduceIte, Nat.reduceEqDiff, Nat.reduceAdd, Nat.reduceMul, Nat.reduceLeDiff, Int.reduceLE, Int.reduceLT, Int.reduceEq, Int.reduceToNat, Int.reduceAdd, Int.reduceSub, Int.reduceMul, Int.reduceNeg, reduceCtorEq, Option.bind_some, Option.map_some, List.length_cons, List.length_nil, vcM, List.getElem?_toArray, List.getElem?_cons_zero, List.getElem?_cons_succ])
  -- data
  (refine W_at c20_ok ?_; refine ⟨_, rfl, ?_⟩; simp (disch := first | omega | assumption | rfl | (simp only [vcS] <;> omega) | fail) only [↓ptV_l, ↓vcA, vcB, ↓vcD, vcE, ↓reduceIte, Nat.reduceEqDiff, Nat.reduceAdd, Nat.reduceMul, Nat.reduceLeDiff, Int.reduceLE, Int.reduceLT, Int.reduceEq, Int.reduceToNat, Int.reduceAdd, Int.reduceSub, Int.reduceMul, Int.reduceNeg, reduceCtorEq, Option.bind_some, Option.map_some, List.length_cons, List.length_nil, vcM, List.getElem?_toArray, List.getElem?_cons_zero, List.getElem?_cons_succ])
  refine callV_ret (cutPre2_ok (w5.alloc (.cells (bv [106]).toArray 5)) y _ s [106] (hy.ext (hE15.ext (lE _ _))) (lit w5 [106] (by simp)) hb (by intro z hz; simp at hz; omega)) ?_
  rintro _ w6 ⟨v6, rfl, hP6, hw6⟩
  have hE6 : Ext w1 w6 := by rw [hw6]; exact hE15.ext (lE _ _)
  clear hw6
  simp (disch := first | omega | assumption | rfl | (simp only [vcS] <;> omega) | fail) only [↓ptV_l, ↓vcA, vcB, ↓vcD, vcE, ↓reduceIte, Nat.reduceEqDiff, Nat.reduceAdd, Nat.reduceMul, Nat.reduceLeDiff, Int.reduceLE, Int.reduceLT, Int.reduceEq, Int.reduceToNat, Int.reduceAdd, Int.reduceSub, Int.reduceMul, Int.reduceNeg, reduceCtorEq, Option.bind_some, Option.map_some, List.length_cons, List.length_nil, vcM, List.getElem?_toArray, List.getElem?_cons_zero, List.getElem?_cons_succ]
  have hend : ∀ (tl : Env) (wz : World), Ext w1 wz → kindG s = (0, []) → W Try.prog (Ret fun u w' => KindOwn w w' s u) 20 2 tl wz := by
    intro tl wz hEz hk
    (refine W_at c20_ok ?_; refine ⟨_, rfl, ?_⟩; simp (disch := first | omega | assumption | rfl | (simp only [vcS] <;> omega) | fail) only [↓ptV_l, ↓vcA, vcB, ↓vcD, vcE, ↓reduceIte, Nat.reduceEqDiff, Nat.reduceAdd, Nat.reduceMul, Nat.reduceLeDiff, Int.reduceLE, Int.reduceLT, Int.reduceEq, Int.reduceToNat, Int.reduceAdd, Int.reduceSub, Int.reduceMul, Int.reduceNeg, reduceCtorEq, Option.bind_some, Option.map_some, List.length_cons, List.length_nil, vcM, List.getElem?_toArray, List.getElem?_cons_zero, List.getElem?_cons_succ])
    (refine W_at c20_ok ?_; refine ⟨_, rfl, ?_⟩; simp (disch := first | omega | assumption | rfl | (simp only [vcS] <;> omega) | fail) only [↓ptV_l, ↓vcA, vcB, ↓vcD, vcE, ↓reduceIte, Nat.reduceEqDiff, Nat.reduceAdd, Nat.reduceMul, Nat.reduceLeDiff, Int.reduceLE, Int.reduceLT, Int.reduceEq, Int.reduceToNat, Int.reduceAdd, Int.reduceSub, Int.reduceMul, Int.reduceNeg, reduceCtorEq, Option.bind_some, Option.map_some, List.length_cons, List.length_nil, vcM, List.getElem?_toArray, List.getElem?_cons_zero, List.getElem?_cons_succ, Ret_returned])
    exact ⟨.slice none 0 0, [], by rw [hk], by rw [hk]; rfl, PtsB.nil _ _, hE1.ext hEz⟩
  cases hp : preB s [106] with
  | false =>
    (refine W_at c20_ok ?_; refine ⟨_, rfl, ?_⟩; simp (disch := first | omega | assumption | rfl | (simp only [vcS] <;> omega) | fail) only [↓ptV_l, ↓vcA, vcB, ↓vcD, vcE, ↓reduceIte, Nat.reduceEqDiff, Nat.reduceAdd, Nat.reduceMul, Nat.reduceLeDiff, Int.reduceLE, Int.reduceLT, Int.reduceEq, Int.reduceToNat, Int.reduceAdd, Int.reduceSub, Int.reduceMul, Int.reduceNeg, reduceCtorEq, Option.bind_some, Option.map_some, List.length_cons, List.length_nil, vcM, List.getElem?_toArray, List.getElem?_cons_zero, List.getElem?_cons_succ])
    (refine W_at c20_ok ?_; refine ⟨_, rfl, ?_⟩; simp (disch := first | omega | assumption | rfl | (simp only [vcS] <;> omega) | fail) only [↓ptV_l, ↓vcA, vcB, ↓vcD, vcE, ↓reduceIte, Nat.reduceEqDiff, Nat.reduceAdd, Nat.reduceMul, Nat.reduceLeDiff, Int.reduceLE, Int.reduceLT, Int.reduceEq, Int.reduceToNat, Int.reduceAdd, Int.reduceSub, Int.reduceMul, Int.reduceNeg, reduceCtorEq, Option.bind_some, Option.map_some, List.length_cons, List.length_nil, vcM, List.getElem?_toArray, List.getElem?_cons_zero, List.getElem?_cons_succ])
    exact hend _ w6 hE6 (by rw [kindG, hB1, hB2, hB3, hM, hp]; rfl)
  | true =>
    rw [hp] at hP6
    have hr6 : Rd w6 v6 (s.drop 1) := (hP6 w6).1 (hy.ext hE6)
    have hO6 := (hP6 w6).2 (hyB.ext hE6)
    simp only [if_true] at hO6
    (refine W_at c20_ok ?_; refine ⟨_, rfl, ?_⟩; simp (disch := first | omega | assumption | rfl | (simp only [vcS] <;> omega) | fail) only [↓ptV_l, ↓vcA, vcB, ↓vcD, vcE, ↓reduceIte, Nat.reduceEqDiff, Nat.reduceAdd, Nat.reduceMul, Nat.reduceLeDiff, Int.reduceLE, Int.reduceLT, Int.reduceEq, Int.reduceToNat, Int.reduceAdd, Int.reduceSub, Int.reduceMul, Int.reduceNeg, reduceCtorEq, Option.bind_some, Option.map_some, List.length_cons, List.length_nil, vcM, List.getElem?_toArray, List.getElem?_cons_zero, List.getElem?_cons_succ])
    refine callV_ret (pushes_ok w6 v6 _ hr6 (byt_drop hb 1) (by rw [List.length_drop]; omega)) ?_
    rintro _ w7 ⟨rfl, hE7⟩
    first | (simp (disch := first | omega | assumption | rfl | (simp only [vcS] <;> omega) | fail) only [↓ptV_l, ↓vcA, vcB, ↓vcD, vcE, ↓reduceIte, Nat.reduceEqDiff, Nat.reduceAdd, Nat.reduceMul, Nat.reduceLeDiff, Int.reduceLE, Int.reduceLT, Int.reduceEq, Int.reduceToNat, Int.reduceAdd, Int.reduceSub, Int.reduceMul, Int.reduceNeg, reduceCtorEq, Option.bind_some, Option.map_some, List.length_cons, List.length_nil, vcM, List.getElem?_toArray, List.getElem?_cons_zero, List.getElem?_cons_succ]) | skip
    cases hpu : pushesF (s.drop 1) with
    | false =>
      (refine W_at c20_ok ?_; refine ⟨_, rfl, ?_⟩; simp (disch := first | omega | assumption | rfl | (simp only [vcS] <;> omega) | fail) only [↓ptV_l, ↓vcA, vcB, ↓vcD, vcE, ↓reduceIte, Nat.reduceEqDiff, Nat.reduceAdd, Nat.reduceMul, Nat.reduceLeDiff, Int.reduceLE, Int.reduceLT, Int.reduceEq, Int.reduceToNat, Int.reduceAdd, Int.reduceSub, Int.reduceMul, Int.reduceNeg, reduceCtorEq, Option.bind_some, Option.map_some, List.length_cons, List.length_nil, vcM, List.getElem?_toArray, List.getElem?_cons_zero, List.getElem?_cons_succ])
      exact hend _ w7 (hE6.ext hE7) (by rw [kindG, hB1, hB2, hB3, hM, hp, hpu]; rfl)
    | true =>
      have hk : kindG s = (6, [s.drop 1]) := by rw [kindG, hB1, hB2, hB3, hM, hp, hpu]; rfl
      have hr7 := hr6.ext hE7
      have hc7 := hone hr7
      (refine W_at c20_ok ?_; refine ⟨_, rfl, ?_⟩; simp (disch := first | omega | assumption | rfl | (simp only [vcS] <;> omega) | fail) only [↓ptV_l, ↓vcA, vcB, ↓vcD, vcE, ↓reduceIte, Nat.reduceEqDiff, Nat.reduceAdd, Nat.reduceMul, Nat.reduceLeDiff, Int.reduceLE, Int.reduceLT, Int.reduceEq, Int.reduceToNat, Int.reduceAdd, Int.reduceSub, Int.reduceMul, Int.reduceNeg, reduceCtorEq, Option.bind_some, Option.map_some, List.length_cons, List.length_nil, vcM, List.getElem?_toArray, List.getElem?_cons_zero, List.getElem?_cons_succ])
      (refine W_at c20_ok ?_; refine ⟨_, rfl, ?_⟩; simp (disch := first | omega | assumption | rfl | (simp only [vcS] <;> omega) | fail) only [↓ptV_l, ↓vcA, vcB, ↓vcD, vcE, ↓reduceIte, Nat.reduceEqDiff, Nat.reduceAdd, Nat.reduceMul, Nat.reduceLeDiff, Int.reduceLE, Int.reduceLT, Int.reduceEq, Int.reduceToNat, Int.reduceAdd, Int.reduceSub, Int.reduceMul, Int.reduceNeg, reduceCtorEq, Option.bind_some, Option.map_some, List.length_cons, List.length_nil, vcM, List.getElem?_toArray, List.getElem?_cons_zero, List.getElem?_cons_succ, hc7])
      (refine W_at c20_ok ?_; refine ⟨_, rfl, ?_⟩; simp (disch := first | omega | assumption | rfl | (simp only [vcS] <;> omega) | fail) only [↓ptV_l, ↓vcA, vcB, ↓vcD, vcE, ↓reduceIte, Nat.reduceEqDiff, Nat.reduceAdd, Nat.reduceMul, Nat.reduceLeDiff, Int.reduceLE, Int.reduceLT, Int.reduceEq, Int.reduceToNat, Int.reduceAdd, Int.reduceSub, Int.reduceMul, Int.reduceNeg, reduceCtorEq, Option.bind_some, Option.map_some, List.length_cons, List.length_nil, vcM, List.getElem?_toArray, List.getElem?_cons_zero, List.getElem?_cons_succ, Ret_returned])
      exact ⟨_, _, by rw [hk], by rw [hk]; rfl, PtsB.lit1 (hO6.1.ext hE7) (fun g hg => hn1 g (hO6.2 g hg)) (hE1.ext (hE6.ext hE7)).size, (hE1.ext (hE6.ext hE7)).alloc _⟩
end Go.Proofs
namespace Go.Proofs
open Go.Vc
set_option maxRecDepth 10000

theorem rsmall_ok (w : World) (c : Int) (hc : 0 ≤ c ∧ c ≤ 255) : Calls Try.prog 59 #[.int .u8 c] w (Ret fun u w' => u = .int .i64 (smallF c) ∧ w' = w) := by
  refine calls_of_cfg c59_ok (Nat.le_of_ble_eq_true rfl) ?_
  simp only [argE_nil, argE_cons, Nat.reduceAdd, Nat.zero_add]
  (refine W_at c59_ok ?_; refine ⟨_, rfl, ?_⟩; simp (disch := first | omega | assumption | rfl | (simp only [vcS] <;> omega) | fail) only [↓ptV_l, ↓vcA, vcB, ↓vcD, vcE, ↓reduceIte, Nat.reduceEqDiff, Nat.reduceAdd, Nat.reduceMul, Nat.reduceLeDiff, Int.reduceLE, Int.reduceLT, Int.reduceEq, Int.reduceToNat, Int.reduceAdd, Int.reduceSub, Int.reduceMul, Int.reduceNeg, reduceCtorEq, Option.bind_some, Option.map_some, List.length_cons, List.length_nil, vcM, List.getElem?_toArray, List.getElem?_cons_zero, List.getElem?_cons_succ])
  unfold smallF
  have e1 : IntKind.i64.wrap c = c := wrap_i64 (by omega) (by omega)
  have e2 : IntKind.i64.wrap (c - 80) = c - 80 := wrap_i64 (by omega) (by omega)
  by_cases h0 : c = 0
  · subst h0
    (refine W_at c59_ok ?_; refine ⟨_, rfl, ?_⟩; simp (disch := first | omega | assumption | rfl | (simp only [vcS] <;> omega) | fail) only [↓ptV_l, ↓vcA, vcB, ↓vcD, vcE, ↓reduceIte, Nat.reduceEqDiff, Nat.reduceAdd, Nat.reduceMul, Nat.reduceLeDiff, Int.reduceLE, Int.reduceLT, Int.reduceEq, Int.reduceToNat, Int.reduceAdd, Int.reduceSub, Int.reduceMul, Int.reduceNeg, reduceCtorEq, Option.bind_some, Option.map_some, List.length_cons, List.length_nil, vcM, List.getElem?_toArray, List.getElem?_cons_zero, List.getElem?_cons_succ])
    (refine W_at c59_ok ?_; refine ⟨_, rfl, ?_⟩; simp (disch := first | omega | assumption | rfl | (simp only [vcS] <;> omega) | fail) only [↓ptV_l, ↓vcA, vcB, ↓vcD, vcE, ↓reduceIte, Nat.reduceEqDiff, Nat.reduceAdd, Nat.reduceMul, Nat.reduceLeDiff, Int.reduceLE, Int.reduceLT, Int.reduceEq, Int.reduceToNat, Int.reduceAdd, Int.reduceSub, Int.reduceMul, Int.reduceNeg, reduceCtorEq, Option.bind_some, Option.map_some, List.length_cons, List.length_nil, vcM, List.getElem?_toArray, List.getElem?_cons_zero, List.getElem?_cons_succ])
    (refine W_at c59_ok ?_; refine ⟨_, rfl, ?_⟩; simp (disch := first | omega | assumption | rfl | (simp only [vcS] <;> omega) | fail) only [↓ptV_l, ↓vcA, vcB, ↓vcD, vcE, ↓reduceIte, Nat.reduceEqDiff, Nat.reduceAdd, Nat.reduceMul, Nat.reduceLeDiff, Int.reduceLE, Int.reduceLT, Int.reduceEq, Int.reduceToNat, Int.reduceAdd, Int.reduceSub, Int.reduceMul, Int.reduceNeg, reduceCtorEq, Option.bind_some, Option.map_some, List.length_cons, List.length_nil, vcM, List.getElem?_toArray, List.getElem?_cons_zero, List.getElem?_cons_succ])
    (refine W_at c59_ok ?_; refine ⟨_, rfl, ?_⟩; simp (disch := first | omega | assumption | rfl | (simp only [vcS] <;> omega) | fail) only [↓ptV_l, ↓vcA, vcB, ↓vcD, vcE, ↓reduceIte, Nat.reduceEqDiff, Nat.reduceAdd, Nat.reduceMul, Nat.reduceLeDiff, Int.reduceLE, Int.reduceLT, Int.reduceEq, Int.reduceToNat, Int.reduceAdd, Int.reduceSub, Int.reduceMul, Int.reduceNeg, reduceCtorEq, Option.bind_some, Option.map_some, List.length_cons, List.length_nil, vcM, List.getElem?_toArray, List.getElem?_cons_zero, List.getElem?_cons_succ, Ret_returned])
  rw [if_neg h0]
  (refine W_at c59_ok ?_; refine ⟨_, rfl, ?_⟩; simp (disch := first | omega | assumption | rfl | (simp only [vcS] <;> omega) | fail) only [↓ptV_l, ↓vcA, vcB, ↓vcD, vcE, ↓reduceIte, Nat.reduceEqDiff, Nat.reduceAdd, Nat.reduceMul, Nat.reduceLeDiff, Int.reduceLE, Int.reduceLT, Int.reduceEq, Int.reduceToNat, Int.reduceAdd, Int.reduceSub, Int.reduceMul, Int.reduceNeg, reduceCtorEq, Option.bind_some, Option.map_some, List.length_cons, List.length_nil, vcM, List.getElem?_toArray, List.getElem?_cons_zero, List.getElem?_cons_succ, h0])
  (refine W_at c59_ok ?_; refine ⟨_, rfl, ?_⟩; simp (disch := first | omega | assumption | rfl | (simp only [vcS] <;> omega) | fail) only [↓ptV_l, ↓vcA, vcB, ↓vcD, vcE, ↓reduceIte, Nat.reduceEqDiff, Nat.reduceAdd, Nat.reduceMul, Nat.reduceLeDiff, Int.reduceLE, Int.reduceLT, Int.reduceEq, Int.reduceToNat, Int.reduceAdd, Int.reduceSub, Int.reduceMul, Int.reduceNeg, reduceCtorEq, Option.bind_some, Option.map_some, List.length_cons, List.length_nil, vcM, List.getElem?_toArray, List.getElem?_cons_zero, List.getElem?_cons_succ])
  by_cases h1 : c ≥ 81
  · by_cases h2 : c ≤ 96
    · rw [if_pos ⟨h1, h2⟩]
      (refine W_at c59_ok ?_; refine ⟨_, rfl, ?_⟩; simp (disch := first | omega | assumption | rfl | (simp only [vcS] <;> omega) | fail) only [↓ptV_l, ↓vcA, vcB, ↓vcD, vcE, ↓reduceIte, Nat.reduceEqDiff, Nat.reduceAdd, Nat.reduceMul, Nat.reduceLeDiff, Int.reduceLE, Int.reduceLT, Int.reduceEq, Int.reduceToNat, Int.reduceAdd, Int.reduceSub, Int.reduceMul, Int.reduceNeg, reduceCtorEq, Option.bind_some, Option.map_some, List.length_cons, List.length_nil, vcM, List.getElem?_toArray, List.getElem?_cons_zero, List.getElem?_cons_succ, h1, h2])
      (refine W_at c59_ok ?_; refine ⟨_, rfl, ?_⟩; simp (disch := first | omega | assumption | rfl | (simp only [vcS] <;> omega) | fail) only [↓ptV_l, ↓vcA, vcB, ↓vcD, vcE, ↓reduceIte, Nat.reduceEqDiff, Nat.reduceAdd, Nat.reduceMul, Nat.reduceLeDiff, Int.reduceLE, Int.reduceLT, Int.reduceEq, Int.reduceToNat, Int.reduceAdd, Int.reduceSub, Int.reduceMul, Int.reduceNeg, reduceCtorEq, Option.bind_some, Option.map_some, List.length_cons, List.length_nil, vcM, List.getElem?_toArray, List.getElem?_cons_zero, List.getElem?_cons_succ])
      (refine W_at c59_ok ?_; refine ⟨_, rfl, ?_⟩; simp (disch := first | omega | assumption | rfl | (simp only [vcS] <;> omega) | fail) only [↓ptV_l, ↓vcA, vcB, ↓vcD, vcE, ↓reduceIte, Nat.reduceEqDiff, Nat.reduceAdd, Nat.reduceMul, Nat.reduceLeDiff, Int.reduceLE, Int.reduceLT, Int.reduceEq, Int.reduceToNat, Int.reduceAdd, Int.reduceSub, Int.reduceMul, Int.reduceNeg, reduceCtorEq, Option.bind_some, Option.map_some, List.length_cons, List.length_nil, vcM, List.getElem?_toArray, List.getElem?_cons_zero, List.getElem?_cons_succ, e1, e2])
      (refine W_at c59_ok ?_; refine ⟨_, rfl, ?_⟩; simp (disch := first | omega | assumption | rfl | (simp only [vcS] <;> omega) | fail) only [↓ptV_l, ↓vcA, vcB, ↓vcD, vcE, ↓reduceIte, Nat.reduceEqDiff, Nat.reduceAdd, Nat.reduceMul, Nat.reduceLeDiff, Int.reduceLE, Int.reduceLT, Int.reduceEq, Int.reduceToNat, Int.reduceAdd, Int.reduceSub, Int.reduceMul, Int.reduceNeg, reduceCtorEq, Option.bind_some, Option.map_some, List.length_cons, List.length_nil, vcM, List.getElem?_toArray, List.getElem?_cons_zero, List.getElem?_cons_succ, Ret_returned])
    · rw [if_neg fun h => h2 h.2]
      (refine W_at c59_ok ?_; refine ⟨_, rfl, ?_⟩; simp (disch := first | omega | assumption | rfl | (simp only [vcS] <;> omega) | fail) only [↓ptV_l, ↓vcA, vcB, ↓vcD, vcE, ↓reduceIte, Nat.reduceEqDiff, Nat.reduceAdd, Nat.reduceMul, Nat.reduceLeDiff, Int.reduceLE, Int.reduceLT, Int.reduceEq, Int.reduceToNat, Int.reduceAdd, Int.reduceSub, Int.reduceMul, Int.reduceNeg, reduceCtorEq, Option.bind_some, Option.map_some, List.length_cons, List.length_nil, vcM, List.getElem?_toArray, List.getElem?_cons_zero, List.getElem?_cons_succ, h1, h2])
      (refine W_at c59_ok ?_; refine ⟨_, rfl, ?_⟩; simp (disch := first | omega | assumption | rfl | (simp only [vcS] <;> omega) | fail) only [↓ptV_l, ↓vcA, vcB, ↓vcD, vcE, ↓reduceIte, Nat.reduceEqDiff, Nat.reduceAdd, Nat.reduceMul, Nat.reduceLeDiff, Int.reduceLE, Int.reduceLT, Int.reduceEq, Int.reduceToNat, Int.reduceAdd, Int.reduceSub, Int.reduceMul, Int.reduceNeg, reduceCtorEq, Option.bind_some, Option.map_some, List.length_cons, List.length_nil, vcM, List.getElem?_toArray, List.getElem?_cons_zero, List.getElem?_cons_succ])
      (refine W_at c59_ok ?_; refine ⟨_, rfl, ?_⟩; simp (disch := first | omega | assumption | rfl | (simp only [vcS] <;> omega) | fail) only [↓ptV_l, ↓vcA, vcB, ↓vcD, vcE, ↓reduceIte, Nat.reduceEqDiff, Nat.reduceAdd, Nat.reduceMul, Nat.reduceLeDiff, Int.reduceLE, Int.reduceLT, Int.reduceEq, Int.reduceToNat, Int.reduceAdd, Int.reduceSub, Int.reduceMul, Int.reduceNeg, reduceCtorEq, Option.bind_some, Option.map_some, List.length_cons, List.length_nil, vcM, List.getElem?_toArray, List.getElem?_cons_zero, List.getElem?_cons_succ])
      (refine W_at c59_ok ?_; refine ⟨_, rfl, ?_⟩; simp (disch := first | omega | assumption | rfl | (simp only [vcS] <;> omega) | fail) only [↓ptV_l, ↓vcA, vcB, ↓vcD, vcE, ↓reduceIte, Nat.reduceEqDiff, Nat.reduceAdd, Nat.reduceMul, Nat.reduceLeDiff, Int.reduceLE, Int.reduceLT, Int.reduceEq, Int.reduceToNat, Int.reduceAdd, Int.reduceSub, Int.reduceMul, Int.reduceNeg, reduceCtorEq, Option.bind_some, Option.map_some, List.length_cons, List.length_nil, vcM, List.getElem?_toArray, List.getElem?_cons_zero, List.getElem?_cons_succ, Ret_returned])
  · rw [if_neg fun h => h1 h.1]
    (refine W_at c59_ok ?_; refine ⟨_, rfl, ?_⟩; simp (disch := first | omega | assumption | rfl | (simp only [vcS] <;> omega) | fail) only [↓ptV_l, ↓vcA, vcB, ↓vcD, vcE, ↓reduceIte, Nat.reduceEqDiff, Nat.reduceAdd, Nat.reduceMul, Nat.reduceLeDiff, Int.reduceLE, Int.reduceLT, Int.reduceEq, Int.reduceToNat, Int.reduceAdd, Int.reduceSub, Int.reduceMul, Int.reduceNeg, reduceCtorEq, Option.bind_some, Option.map_some, List.length_cons, List.length_nil, vcM, List.getElem?_toArray, List.getElem?_cons_zero, List.getElem?_cons_succ, h1])
    (refine W_at c59_ok ?_; refine ⟨_, rfl, ?_⟩; simp (disch := first | omega | assumption | rfl | (simp only [vcS] <;> omega) | fail) only [↓ptV_l, ↓vcA, vcB, ↓vcD, vcE, ↓reduceIte, Nat.reduceEqDiff, Nat.reduceAdd, Nat.reduceMul, Nat.reduceLeDiff, Int.reduceLE, Int.reduceLT, Int.reduceEq, Int.reduceToNat, Int.reduceAdd, Int.reduceSub, Int.reduceMul, Int.reduceNeg, reduceCtorEq, Option.bind_some, Option.map_some, List.length_cons, List.length_nil, vcM, List.getElem?_toArray, List.getElem?_cons_zero, List.getElem?_cons_succ])
    (refine W_at c59_ok ?_; refine ⟨_, rfl, ?_⟩; simp (disch := first | omega | assumption | rfl | (simp only [vcS] <;> omega) | fail) only [↓ptV_l, ↓vcA, vcB, ↓vcD, vcE, ↓reduceIte, Nat.reduceEqDiff, Nat.reduceAdd, Nat.reduceMul, Nat.reduceLeDiff, Int.reduceLE, Int.reduceLT, Int.reduceEq, Int.reduceToNat, Int.reduceAdd, Int.reduceSub, Int.reduceMul, Int.reduceNeg, reduceCtorEq, Option.bind_some, Option.map_some, List.length_cons, List.length_nil, vcM, List.getElem?_toArray, List.getElem?_cons_zero, List.getElem?_cons_succ])
    (refine W_at c59_ok ?_; refine ⟨_, rfl, ?_⟩; simp (disch := first | omega | assumption | rfl | (simp only [vcS] <;> omega) | fail) only [↓ptV_l, ↓vcA, vcB, ↓vcD, vcE, ↓reduceIte, Nat.reduceEqDiff, Nat.reduceAdd, Nat.reduceMul, Nat.reduceLeDiff, Int.reduceLE, Int.reduceLT, Int.reduceEq, Int.reduceToNat, Int.reduceAdd, Int.reduceSub, Int.reduceMul, Int.reduceNeg, reduceCtorEq, Option.bind_some, Option.map_some, List.length_cons, List.length_nil, vcM, List.getElem?_toArray, List.getElem?_cons_zero, List.getElem?_cons_succ, Ret_returned])
theorem rbegins_ok (w : World) (x y : Value) (a b : List Int) (hx : Rd w x a) (hy : Rd w y b) (ha : byt a) (hb : byt b) :
    Calls Try.prog 58 #[x, y] w (Ret fun u w' => u = .bool (preB a b) ∧ w' = w) := by
  refine calls_of_cfg c58_ok (Nat.le_of_ble_eq_true rfl) ?_
  simp only [argE_nil, argE_cons, Nat.reduceAdd, Nat.zero_add]
  have h1 := hx.len
  have h2 := hy.len
  (refine W_at c58_ok ?_; refine ⟨_, rfl, ?_⟩; simp (disch := first | omega | assumption | rfl | (simp only [vcS] <;> omega) | fail) only [↓ptV_l, ↓vcA, vcB, ↓vcD, vcE, ↓reduceIte, Nat.reduceEqDiff, Nat.reduceAdd, Nat.reduceMul, Nat.reduceLeDiff, Int.reduceLE, Int.reduceLT, Int.reduceEq, Int.reduceToNat, Int.reduceAdd, Int.reduceSub, Int.reduceMul, Int.reduceNeg, reduceCtorEq, Option.bind_some, Option.map_some, List.length_cons, List.length_nil, vcM, List.getElem?_toArray, List.getElem?_cons_zero, List.getElem?_cons_succ])
  by_cases hlt : (a.length : Int) < (b.length : Nat)
  · (refine W_at c58_ok ?_; refine ⟨_, rfl, ?_⟩; simp (disch := first | omega | assumption | rfl | (simp only [vcS] <;> omega) | fail) only [↓ptV_l, ↓vcA, vcB, ↓vcD, vcE, ↓reduceIte, Nat.reduceEqDiff, Nat.reduceAdd, Nat.reduceMul, Nat.reduceLeDiff, Int.reduceLE, Int.reduceLT, Int.reduceEq, Int.reduceToNat, Int.reduceAdd, Int.reduceSub, Int.reduceMul, Int.reduceNeg, reduceCtorEq, Option.bind_some, Option.map_some, List.length_cons, List.length_nil, vcM, List.getElem?_toArray, List.getElem?_cons_zero, List.getElem?_cons_succ, h1, h2, hlt])
    (refine W_at c58_ok ?_; refine ⟨_, rfl, ?_⟩; simp (disch := first | omega | assumption | rfl | (simp only [vcS] <;> omega) | fail) only [↓ptV_l, ↓vcA, vcB, ↓vcD, vcE, ↓reduceIte, Nat.reduceEqDiff, Nat.reduceAdd, Nat.reduceMul, Nat.reduceLeDiff, Int.reduceLE, Int.reduceLT, Int.reduceEq, Int.reduceToNat, Int.reduceAdd, Int.reduceSub, Int.reduceMul, Int.reduceNeg, reduceCtorEq, Option.bind_some, Option.map_some, List.length_cons, List.length_nil, vcM, List.getElem?_toArray, List.getElem?_cons_zero, List.getElem?_cons_succ])
    (refine W_at c58_ok ?_; refine ⟨_, rfl, ?_⟩; simp (disch := first | omega | assumption | rfl | (simp only [vcS] <;> omega) | fail) only [↓ptV_l, ↓vcA, vcB, ↓vcD, vcE, ↓reduceIte, Nat.reduceEqDiff, Nat.reduceAdd, Nat.reduceMul, Nat.reduceLeDiff, Int.reduceLE, Int.reduceLT, Int.reduceEq, Int.reduceToNat, Int.reduceAdd, Int.reduceSub, Int.reduceMul, Int.reduceNeg, reduceCtorEq, Option.bind_some, Option.map_some, List.length_cons, List.length_nil, vcM, List.getElem?_toArray, List.getElem?_cons_zero, List.getElem?_cons_succ])
    (refine W_at c58_ok ?_; refine ⟨_, rfl, ?_⟩; simp (disch := first | omega | assumption | rfl | (simp only [vcS] <;> omega) | fail) only [↓ptV_l, ↓vcA, vcB, ↓vcD, vcE, ↓reduceIte, Nat.reduceEqDiff, Nat.reduceAdd, Nat.reduceMul, Nat.reduceLeDiff, Int.reduceLE, Int.reduceLT, Int.reduceEq, Int.reduceToNat, Int.reduceAdd, Int.reduceSub, Int.reduceMul, Int.reduceNeg, reduceCtorEq, Option.bind_some, Option.map_some, List.length_cons, List.length_nil, vcM, List.getElem?_toArray, List.getElem?_cons_zero, List.getElem?_cons_succ, Ret_returned])
    rw [preB, decide_eq_false (by omega)]
  · obtain ⟨q, c, rfl, hc⟩ := hx.eq
    have s1 : 0 ≤ (b.length : Int) ∧ (b.length : Int) ≤ c := by omega
    (refine W_at c58_ok ?_; refine ⟨_, rfl, ?_⟩; simp (disch := first | omega | assumption | rfl | (simp only [vcS] <;> omega) | fail) only [↓ptV_l, ↓vcA, vcB, ↓vcD, vcE, ↓reduceIte, Nat.reduceEqDiff, Nat.reduceAdd, Nat.reduceMul, Nat.reduceLeDiff, Int.reduceLE, Int.reduceLT, Int.reduceEq, Int.reduceToNat, Int.reduceAdd, Int.reduceSub, Int.reduceMul, Int.reduceNeg, reduceCtorEq, Option.bind_some, Option.map_some, List.length_cons, List.length_nil, vcM, List.getElem?_toArray, List.getElem?_cons_zero, List.getElem?_cons_succ, h1, h2, hlt])
    (refine W_at c58_ok ?_; refine ⟨_, rfl, ?_⟩; simp (disch := first | omega | assumption | rfl | (simp only [vcS] <;> omega) | fail) only [↓ptV_l, ↓vcA, vcB, ↓vcD, vcE, ↓reduceIte, Nat.reduceEqDiff, Nat.reduceAdd, Nat.reduceMul, Nat.reduceLeDiff, Int.reduceLE, Int.reduceLT, Int.reduceEq, Int.reduceToNat, Int.reduceAdd, Int.reduceSub, Int.reduceMul, Int.reduceNeg, reduceCtorEq, Option.bind_some, Option.map_some, List.length_cons, List.length_nil, vcM, List.getElem?_toArray, List.getElem?_cons_zero, List.getElem?_cons_succ])
    (refine W_at c58_ok ?_; refine ⟨_, rfl, ?_⟩; simp (disch := first | omega | assumption | rfl | (simp only [vcS] <;> omega) | fail) only [↓ptV_l, ↓vcA, vcB, ↓vcD, vcE, ↓reduceIte, Nat.reduceEqDiff, Nat.reduceAdd, Nat.reduceMul, Nat.reduceLeDiff, Int.reduceLE, Int.reduceLT, Int.reduceEq, Int.reduceToNat, Int.reduceAdd, Int.reduceSub, Int.reduceMul, Int.reduceNeg, reduceCtorEq, Option.bind_some, Option.map_some, List.length_cons, List.length_nil, vcM, List.getElem?_toArray, List.getElem?_cons_zero, List.getElem?_cons_succ, h2, s1, Int.toNat_natCast])
    refine callV_ret (equal_ok w _ y (a.take b.length) b (cut_hi hx (by omega)) hy (byt_take ha _) hb) ?_
    rintro _ wq ⟨rfl, hw⟩
    obtain rfl : w = wq := hw.symm
    first | (simp (disch := first | omega | assumption | rfl | (simp only [vcS] <;> omega) | fail) only [↓ptV_l, ↓vcA, vcB, ↓vcD, vcE, ↓reduceIte, Nat.reduceEqDiff, Nat.reduceAdd, Nat.reduceMul, Nat.reduceLeDiff, Int.reduceLE, Int.reduceLT, Int.reduceEq, Int.reduceToNat, Int.reduceAdd, Int.reduceSub, Int.reduceMul, Int.reduceNeg, reduceCtorEq, Option.bind_some, Option.map_some, List.length_cons, List.length_nil, vcM, List.getElem?_toArray, List.getElem?_cons_zero, List.getElem?_cons_succ]) | skip
    (refine W_at c58_ok ?_; refine ⟨_, rfl, ?_⟩; simp (disch := first | omega | assumption | rfl | (simp only [vcS] <;> omega) | fail) only [↓ptV_l, ↓vcA, vcB, ↓vcD, vcE, ↓reduceIte, Nat.reduceEqDiff, Nat.reduceAdd, Nat.reduceMul, Nat.reduceLeDiff, Int.reduceLE, Int.reduceLT, Int.reduceEq, Int.reduceToNat, Int.reduceAdd, Int.reduceSub, Int.reduceMul, Int.reduceNeg, reduceCtorEq, Option.bind_some, Option.map_some, List.length_cons, List.length_nil, vcM, List.getElem?_toArray, List.getElem?_cons_zero, List.getElem?_cons_succ, Ret_returned])
    rw [preB]
    exact congrArg Value.bool (decide_eq_decide.2 ⟨fun h => ⟨by omega, h⟩, fun h => h.2⟩)
def RProgTo (w w' : World) (s : List Int) (u : Value) : Prop :=
  ∃ v d, u = .tuple #[.int .i64 v, d] ∧ Ext w w' ∧ match progF s with
    | some (v', p) => v = v' ∧ Own1 w' d p
    | none => v = -1 ∧ d = .slice none 0 0
set_option maxHeartbeats 1600000 in
theorem rprogram_ok (w : World) (x : Value) (s : List Int) (hx : Rd w x s) (hb : byt s) (hl : s.length ≤ 1000000000) :
    Calls Try.prog 24 #[x] w (Ret fun u w' => RProgTo w w' s u) := by
  refine calls_of_cfg c24_ok (Nat.le_of_ble_eq_true rfl) ?_
  simp only [argE_nil, argE_cons, Nat.reduceAdd, Nat.zero_add]
  have hlen := hx.len
  have bad : progF s = none → ∀ (tl : Env) (wz : World), Ext w wz → W Try.prog (Ret fun u w' => RProgTo w w' s u) 24 4 tl wz := by
    intro hn tl wz hE
    (refine W_at c24_ok ?_; refine ⟨_, rfl, ?_⟩; simp (disch := first | omega | assumption | rfl | (simp only [vcS] <;> omega) | fail) only [↓ptV_l, ↓vcA, vcB, ↓vcD, vcE, ↓reduceIte, Nat.reduceEqDiff, Nat.reduceAdd, Nat.reduceMul, Nat.reduceLeDiff, Int.reduceLE, Int.reduceLT, Int.reduceEq, Int.reduceToNat, Int.reduceAdd, Int.reduceSub, Int.reduceMul, Int.reduceNeg, reduceCtorEq, Option.bind_some, Option.map_some, List.length_cons, List.length_nil, vcM, List.getElem?_toArray, List.getElem?_cons_zero, List.getElem?_cons_succ])
    (refine W_at c24_ok ?_; refine ⟨_, rfl, ?_⟩; simp (disch := first | omega | assumption | rfl | (simp only [vcS] <;> omega) | fail) only [↓ptV_l, ↓vcA, vcB, ↓vcD, vcE, ↓reduceIte, Nat.reduceEqDiff, Nat.reduceAdd, Nat.reduceMul, Nat.reduceLeDiff, Int.reduceLE, Int.reduceLT, Int.reduceEq, Int.reduceToNat, Int.reduceAdd, Int.reduceSub, Int.reduceMul, Int.reduceNeg, reduceCtorEq, Option.bind_some, Option.map_some, List.length_cons, List.length_nil, vcM, List.getElem?_toArray, List.getElem?_cons_zero, List.getElem?_cons_succ, Ret_returned])
    exact ⟨-1, _, rfl, hE, by rw [hn]; exact ⟨rfl, rfl⟩⟩
  (refine W_at c24_ok ?_; refine ⟨_, rfl, ?_⟩; simp (disch := first | omega | assumption | rfl | (simp only [vcS] <;> omega) | fail) only [↓ptV_l, ↓vcA, vcB, ↓vcD, vcE, ↓reduceIte, Nat.reduceEqDiff, Nat.reduceAdd, Nat.reduceMul, Nat.reduceLeDiff, Int.reduceLE, Int.reduceLT, Int.reduceEq, Int.reduceToNat, Int.reduceAdd, Int.reduceSub, Int.reduceMul, Int.reduceNeg, reduceCtorEq, Option.bind_some, Option.map_some, List.length_cons, List.length_nil, vcM, List.getElem?_toArray, List.getElem?_cons_zero, List.getElem?_cons_succ])
  by_cases h4 : (s.length : Int) < 4
  · (refine W_at c24_ok ?_; refine ⟨_, rfl, ?_⟩; simp (disch := first | omega | assumption | rfl | (simp only [vcS] <;> omega) | fail) only [↓ptV_l, ↓vcA, vcB, ↓vcD, vcE, ↓reduceIte, Nat.reduceEqDiff, Nat.reduceAdd, Nat.reduceMul, Nat.reduceLeDiff, Int.reduceLE, Int.reduceLT, Int.reduceEq, Int.reduceToNat, Int.reduceAdd, Int.reduceSub, Int.reduceMul, Int.reduceNeg, reduceCtorEq, Option.bind_some, Option.map_some, List.length_cons, List.length_nil, vcM, List.getElem?_toArray, List.getElem?_cons_zero, List.getElem?_cons_succ, hlen, h4])
    (refine W_at c24_ok ?_; refine ⟨_, rfl, ?_⟩; simp (disch := first | omega | assumption | rfl | (simp only [vcS] <;> omega) | fail) only [↓ptV_l, ↓vcA, vcB, ↓vcD, vcE, ↓reduceIte, Nat.reduceEqDiff, Nat.reduceAdd, Nat.reduceMul, Nat.reduceLeDiff, Int.reduceLE, Int.reduceLT, Int.reduceEq, Int.reduceToNat, Int.reduceAdd, Int.reduceSub, Int.reduceMul, Int.reduceNeg, reduceCtorEq, Option.bind_some, Option.map_some, List.length_cons, List.length_nil, vcM, List.getElem?_toArray, List.getElem?_cons_zero, List.getElem?_cons_succ])
    refine bad ?_ _ w (Keep.refl _ w)
    match s, h4 with
    | [], _ => rfl
    | [_], _ => rfl
    | a :: b :: t, h4 => simp only [List.length_cons] at h4; rw [progF, if_neg (by omega)]
  by_cases h42 : (s.length : Int) > 42
  · (refine W_at c24_ok ?_; refine ⟨_, rfl, ?_⟩; simp (disch := first | omega | assumption | rfl | (simp only [vcS] <;> omega) | fail) only [↓ptV_l, ↓vcA, vcB, ↓vcD, vcE, ↓reduceIte, Nat.reduceEqDiff, Nat.reduceAdd, Nat.reduceMul, Nat.reduceLeDiff, Int.reduceLE, Int.reduceLT, Int.reduceEq, Int.reduceToNat, Int.reduceAdd, Int.reduceSub, Int.reduceMul, Int.reduceNeg, reduceCtorEq, Option.bind_some, Option.map_some, List.length_cons, List.length_nil, vcM, List.getElem?_toArray, List.getElem?_cons_zero, List.getElem?_cons_succ, hlen, h4, h42])
    (refine W_at c24_ok ?_; refine ⟨_, rfl, ?_⟩; simp (disch := first | omega | assumption | rfl | (simp only [vcS] <;> omega) | fail) only [↓ptV_l, ↓vcA, vcB, ↓vcD, vcE, ↓reduceIte, Nat.reduceEqDiff, Nat.reduceAdd, Nat.reduceMul, Nat.reduceLeDiff, Int.reduceLE, Int.reduceLT, Int.reduceEq, Int.reduceToNat, Int.reduceAdd, Int.reduceSub, Int.reduceMul, Int.reduceNeg, reduceCtorEq, Option.bind_some, Option.map_some, List.length_cons, List.length_nil, vcM, List.getElem?_toArray, List.getElem?_cons_zero, List.getElem?_cons_succ])
    refine bad ?_ _ w (Keep.refl _ w)
    match s, h42 with
    | [], _ => rfl
    | [_], _ => rfl
    | a :: b :: t, h42 => simp only [List.length_cons] at h42; rw [progF, if_neg (by omega)]
  obtain ⟨a, b, t, rfl⟩ : ∃ a b t, s = a :: b :: t := by
    match s, h4 with
    | [], h4 => simp at h4
    | [_], h4 => simp at h4
    | a :: b :: t, _ => exact ⟨a, b, t, rfl⟩
  have hac := hb a (by simp)
  have hbc := hb b (by simp)
  obtain ⟨b1, o1, c1, rfl, hc0⟩ := hx.at (i := 0) (by simp)
  obtain ⟨b2, o2, c2, e2, hc1⟩ := hx.at (i := 1) (by simp)
  injection e2 with e2 _ e3
  cases e2; subst e3
  simp only [List.getElem_cons_zero, List.getElem_cons_succ] at hc0 hc1
  have hL : (a :: b :: t).length = t.length + 2 := rfl
  rw [hL] at h4 h42 hl hlen
  have hi0 : 0 < ((t.length + 2 : Nat) : Int) := by omega
  have hi1 : 1 < ((t.length + 2 : Nat) : Int) := by omega
  have hws : IntKind.i64.wrap (((t.length + 2 : Nat) : Int) - 2) = (t.length : Nat) := by rw [wrap_i64 (by omega) (by omega)]; omega
  have hwb : IntKind.i64.wrap b = b := wrap_i64 (by omega) (by omega)
  have hT0 : (0 : Int).toNat = 0 := rfl
  have hT1 : (1 : Int).toNat = 1 := rfl
  rw [Nat.add_zero] at hc0
  rw [hL]
  (refine W_at c24_ok ?_; refine ⟨_, rfl, ?_⟩; simp (disch := first | omega | assumption | rfl | (simp only [vcS] <;> omega) | fail) only [↓vcL1, ptS2_eq, ↓vcA, vcB, ↓vcD, vcE, ↓reduceIte, Nat.reduceEqDiff, Nat.reduceAdd, Nat.reduceMul, Nat.reduceLeDiff, Int.reduceLE, Int.reduceLT, Int.reduceEq, Int.reduceToNat, Int.reduceAdd, Int.reduceSub, Int.reduceMul, Int.reduceNeg, reduceCtorEq, Option.bind_some, Option.map_some, List.length_cons, List.length_nil, vcM, List.getElem?_toArray, List.getElem?_cons_zero, List.getElem?_cons_succ, h4, h42, hi0, hi1, hc0, hc1, hT0, hT1, Nat.mul_one, Nat.zero_mul, Nat.add_zero])
  refine callV_ret (rsmall_ok w a hac) ?_
  rintro _ wq ⟨rfl, hw⟩
  obtain rfl : w = wq := hw.symm
  have hsr := smallF_r a
  by_cases hneg : smallF a < 0
  · simp (disch := first | omega | assumption | rfl | (simp only [vcS] <;> omega) | fail) only [↓vcL2, ptS1_eq, ↓vcA, vcB, ↓vcD, vcE, ↓reduceIte, Nat.reduceEqDiff, Nat.reduceAdd, Nat.reduceMul, Nat.reduceLeDiff, Int.reduceLE, Int.reduceLT, Int.reduceEq, Int.reduceToNat, Int.reduceAdd, Int.reduceSub, Int.reduceMul, Int.reduceNeg, reduceCtorEq, Option.bind_some, Option.map_some, List.length_cons, List.length_nil, vcM, List.getElem?_toArray, List.getElem?_cons_zero, List.getElem?_cons_succ, hneg]
    (refine W_at c24_ok ?_; refine ⟨_, rfl, ?_⟩; simp (disch := first | omega | assumption | rfl | (simp only [vcS] <;> omega) | fail) only [↓ptV_l, ↓vcA, vcB, ↓vcD, vcE, ↓reduceIte, Nat.reduceEqDiff, Nat.reduceAdd, Nat.reduceMul, Nat.reduceLeDiff, Int.reduceLE, Int.reduceLT, Int.reduceEq, Int.reduceToNat, Int.reduceAdd, Int.reduceSub, Int.reduceMul, Int.reduceNeg, reduceCtorEq, Option.bind_some, Option.map_some, List.length_cons, List.length_nil, vcM, List.getElem?_toArray, List.getElem?_cons_zero, List.getElem?_cons_succ])
    exact bad (by rw [progF, if_neg (by omega)]) _ w (Keep.refl _ w)
  by_cases hne : b = (t.length : Nat)
  · subst hne
    have hpf : progF (a :: ((t.length : Nat) : Int) :: t) = some (smallF a, t) := by rw [progF, if_pos (by omega)]
    have hlen2 : lenR (.slice (some ⟨b1, o1, none⟩) (t.length + 2) c1) = some (.int .i64 (t.length + 2 : Nat)) := rfl
    simp (disch := first | omega | assumption | rfl | (simp only [vcS] <;> omega) | fail) only [↓vcL2, ptS1_eq, ↓vcA, vcB, ↓vcD, vcE, ↓reduceIte, Nat.reduceEqDiff, Nat.reduceAdd, Nat.reduceMul, Nat.reduceLeDiff, Int.reduceLE, Int.reduceLT, Int.reduceEq, Int.reduceToNat, Int.reduceAdd, Int.reduceSub, Int.reduceMul, Int.reduceNeg, reduceCtorEq, Option.bind_some, Option.map_some, List.length_cons, List.length_nil, vcM, List.getElem?_toArray, List.getElem?_cons_zero, List.getElem?_cons_succ, hneg, hi1, hc1, hT1, hws, hwb, Nat.mul_one]
    (refine W_at c24_ok ?_; refine ⟨_, rfl, ?_⟩; simp (disch := first | omega | assumption | rfl | (simp only [vcS] <;> omega) | fail) only [↓ptV_l, ↓vcA, vcB, ↓vcD, vcE, ↓reduceIte, Nat.reduceEqDiff, Nat.reduceAdd, Nat.reduceMul, Nat.reduceLeDiff, Int.reduceLE, Int.reduceLT, Int.reduceEq, Int.reduceToNat, Int.reduceAdd, Int.reduceSub, Int.reduceMul, Int.reduceNeg, reduceCtorEq, Option.bind_some, Option.map_some, List.length_cons, List.length_nil, vcM, List.getElem?_toArray, List.getElem?_cons_zero, List.getElem?_cons_succ])
    have hcp : t.length + 2 ≤ c1 := by
      obtain ⟨q, c, e, h⟩ := hx.eq
      injection e with _ _ e3; subst e3; exact h
    have hsl : 0 ≤ (2 : Int) ∧ (2 : Int) ≤ ((t.length + 2 : Nat) : Int) := by omega
    have hsl1 : (2 : Int) ≤ ((t.length + 2 : Nat) : Int) := by omega
    have hsl2 : 0 ≤ ((t.length + 2 : Nat) : Int) ∧ ((t.length + 2 : Nat) : Int) ≤ c1 := by omega
    have hsl3 : ((t.length + 2 : Nat) : Int) ≤ c1 := by omega
    have hcut := (cut_lo hx (l := 2) (by simp)).2
    have hT2 : (2 : Int).toNat = 2 := rfl
    simp only [List.drop_succ_cons, List.drop_zero] at hcut
    (refine W_at c24_ok ?_; refine ⟨_, rfl, ?_⟩; simp (disch := first | omega | assumption | rfl | (simp only [vcS] <;> omega) | fail) only [↓vcL1, ptS2_eq, ↓vcA, vcB, ↓vcD, vcE, ↓reduceIte, Nat.reduceEqDiff, Nat.reduceAdd, Nat.reduceMul, Nat.reduceLeDiff, Int.reduceLE, Int.reduceLT, Int.reduceEq, Int.reduceToNat, Int.reduceAdd, Int.reduceSub, Int.reduceMul, Int.reduceNeg, reduceCtorEq, Option.bind_some, Option.map_some, List.length_cons, List.length_nil, vcM, List.getElem?_toArray, List.getElem?_cons_zero, List.getElem?_cons_succ, hi0, hc0, hT0, hT2, hsl, hsl1, hsl2, hsl3, Int.toNat_natCast, Nat.zero_mul, Nat.add_zero])
    have hEd : Ext w w.drew := (Keep.refl _ w).drew
    refine callV_ret (rsmall_ok w.drew a hac) ?_
    rintro _ wq ⟨rfl, hw⟩
    obtain rfl : w.drew = wq := hw.symm
    simp (disch := first | omega | assumption | rfl | (simp only [vcS] <;> omega) | fail) only [↓vcL2, ptS1_eq, ↓vcA, vcB, ↓vcD, vcE, ↓reduceIte, Nat.reduceEqDiff, Nat.reduceAdd, Nat.reduceMul, Nat.reduceLeDiff, Int.reduceLE, Int.reduceLT, Int.reduceEq, Int.reduceToNat, Int.reduceAdd, Int.reduceSub, Int.reduceMul, Int.reduceNeg, reduceCtorEq, Option.bind_some, Option.map_some, List.length_cons, List.length_nil, vcM, List.getElem?_toArray, List.getElem?_cons_zero, List.getElem?_cons_succ, hneg]
    refine callV_ret (copy_ok w.drew _ t (hcut.ext hEd) (by omega)) ?_
    rintro d w2 hN
    simp (disch := first | omega | assumption | rfl | (simp only [vcS] <;> omega) | fail) only [↓vcL1, ptS2_eq, ↓vcA, vcB, ↓vcD, vcE, ↓reduceIte, Nat.reduceEqDiff, Nat.reduceAdd, Nat.reduceMul, Nat.reduceLeDiff, Int.reduceLE, Int.reduceLT, Int.reduceEq, Int.reduceToNat, Int.reduceAdd, Int.reduceSub, Int.reduceMul, Int.reduceNeg, reduceCtorEq, Option.bind_some, Option.map_some, List.length_cons, List.length_nil, vcM, List.getElem?_toArray, List.getElem?_cons_zero, List.getElem?_cons_succ]
    (refine W_at c24_ok ?_; refine ⟨_, rfl, ?_⟩; simp (disch := first | omega | assumption | rfl | (simp only [vcS] <;> omega) | fail) only [↓ptV_l, ↓vcA, vcB, ↓vcD, vcE, ↓reduceIte, Nat.reduceEqDiff, Nat.reduceAdd, Nat.reduceMul, Nat.reduceLeDiff, Int.reduceLE, Int.reduceLT, Int.reduceEq, Int.reduceToNat, Int.reduceAdd, Int.reduceSub, Int.reduceMul, Int.reduceNeg, reduceCtorEq, Option.bind_some, Option.map_some, List.length_cons, List.length_nil, vcM, List.getElem?_toArray, List.getElem?_cons_zero, List.getElem?_cons_succ, Ret_returned])
    exact ⟨smallF a, d, rfl, hEd.ext hN.ext, by rw [hpf]; exact ⟨rfl, hN.own⟩⟩
  · simp (disch := first | omega | assumption | rfl | (simp only [vcS] <;> omega) | fail) only [↓vcL2, ptS1_eq, ↓vcA, vcB, ↓vcD, vcE, ↓reduceIte, Nat.reduceEqDiff, Nat.reduceAdd, Nat.reduceMul, Nat.reduceLeDiff, Int.reduceLE, Int.reduceLT, Int.reduceEq, Int.reduceToNat, Int.reduceAdd, Int.reduceSub, Int.reduceMul, Int.reduceNeg, reduceCtorEq, Option.bind_some, Option.map_some, List.length_cons, List.length_nil, vcM, List.getElem?_toArray, List.getElem?_cons_zero, List.getElem?_cons_succ, hneg, hi1, hc1, hT1, hws, hwb, hne, Nat.mul_one]
    (refine W_at c24_ok ?_; refine ⟨_, rfl, ?_⟩; simp (disch := first | omega | assumption | rfl | (simp only [vcS] <;> omega) | fail) only [↓ptV_l, ↓vcA, vcB, ↓vcD, vcE, ↓reduceIte, Nat.reduceEqDiff, Nat.reduceAdd, Nat.reduceMul, Nat.reduceLeDiff, Int.reduceLE, Int.reduceLT, Int.reduceEq, Int.reduceToNat, Int.reduceAdd, Int.reduceSub, Int.reduceMul, Int.reduceNeg, reduceCtorEq, Option.bind_some, Option.map_some, List.length_cons, List.length_nil, vcM, List.getElem?_toArray, List.getElem?_cons_zero, List.getElem?_cons_succ])
    exact bad (by rw [progF, if_neg (by omega)]) _ w (Keep.refl _ w)
end Go.Proofs
namespace Go.Proofs
open Go.Vc
set_option maxRecDepth 10000

theorem betG (s h t : List Int) (n : Nat) : betF s h t n = if s.length = h.length + n + t.length ∧ preB s h = true ∧ s.drop (h.length + n) = t then some ((s.take (h.length + n)).drop h.length) else none := by
  unfold betF
  by_cases hp : preB s h = true
  · have hle := (of_decide_eq_true hp).1
    have hd : (s.drop h.length).length = s.length - h.length := List.length_drop
    by_cases hl : s.length = h.length + n + t.length
    · have e1 : (s.drop h.length).length - t.length = n := by omega
      have hq : sufB (s.drop h.length) t = decide (s.drop (h.length + n) = t) := by
        unfold sufB
        rw [e1, List.drop_drop]
        exact decide_eq_decide.2 ⟨fun h => h.2, fun h => ⟨by omega, h⟩⟩
      rw [hp, hq, e1]
      by_cases ht : s.drop (h.length + n) = t
      · rw [if_pos (by simp [ht]), if_pos ⟨hl, rfl, ht⟩]
        congr 1
        rw [List.drop_take, Nat.add_sub_cancel_left]
      · rw [if_neg (by simp [ht]), if_neg (fun h => ht h.2.2)]
    · have hr : ¬ (s.length = h.length + n + t.length ∧ preB s h = true ∧ s.drop (h.length + n) = t) := fun h => hl h.1
      rw [if_neg hr, if_neg]
      intro hh
      simp only [Bool.and_eq_true, decide_eq_true_eq] at hh
      have h2 := (of_decide_eq_true hh.1.2).1
      omega
  · have hp' : preB s h = false := by simpa using hp
    rw [hp', if_neg (by simp), if_neg (fun h => by cases h.2.1)]
def RKindTo (w w' : World) (s : List Int) (u : Value) : Prop := ∃ v, u = .tuple #[.int .i64 (kindG s).1, v] ∧ PartsAt w' v (kindG s).2 ∧ Ext w w'
theorem rk_end {w w1 : World} {s : List Int} (hE : Ext w w1) (hk : kindG s = (0, [])) (tl : Env) :
    W Try.prog (Ret fun u w' => RKindTo w w' s u) 21 2 tl w1 := by
  (refine W_at c21_ok ?_; refine ⟨_, rfl, ?_⟩; simp (disch := first | omega | assumption | rfl | (simp only [vcS] <;> omega) | fail) only [↓ptV_l, ↓vcA, vcB, ↓vcD, vcE, ↓reduceIte, Nat.reduceEqDiff, Nat.reduceAdd, Nat.reduceMul, Nat.reduceLeDiff, Int.reduceLE, Int.reduceLT, Int.reduceEq, Int.reduceToNat, Int.reduceAdd, Int.reduceSub, Int.reduceMul, Int.reduceNeg, reduceCtorEq, Option.bind_some, Option.map_some, List.length_cons, List.length_nil, vcM, List.getElem?_toArray, List.getElem?_cons_zero, List.getElem?_cons_succ])
  (refine W_at c21_ok ?_; refine ⟨_, rfl, ?_⟩; simp (disch := first | omega | assumption | rfl | (simp only [vcS] <;> omega) | fail) only [↓ptV_l, ↓vcA, vcB, ↓vcD, vcE, ↓reduceIte, Nat.reduceEqDiff, Nat.reduceAdd, Nat.reduceMul, Nat.reduceLeDiff, Int.reduceLE, Int.reduceLT, Int.reduceEq, Int.reduceToNat, Int.reduceAdd, Int.reduceSub, Int.reduceMul, Int.reduceNeg, reduceCtorEq, Option.bind_some, Option.map_some, List.length_cons, List.length_nil, vcM, List.getElem?_toArray, List.getElem?_cons_zero, List.getElem?_cons_succ, Ret_returned])
  exact ⟨.slice none 0 0, by rw [hk], by rw [hk]; exact PartsAt.nil _, hE⟩
theorem rk_data {w w1 : World} {x : Value} {s : List Int} (hx : Rd w1 x s) (hb : byt s) (hl : s.length ≤ 1000000) (hE : Ext w w1) (hk : kindG s = if preB s [106] && pushesF (s.drop 1) then (6, [s.drop 1]) else (0, [])) (tl : Env) :
    W Try.prog (Ret fun u w' => RKindTo w w' s u) 21 6 ((0, x) :: (4, .int .i64 (s.length : Nat)) :: tl) w1 := by
  by_cases h0 : 0 < (s.length : Int)
  · obtain ⟨c, t, rfl⟩ : ∃ c t, s = c :: t := by
      cases s with
      | nil => simp at h0
      | cons c t => exact ⟨c, t, rfl⟩
    have hpre : preB (c :: t) [106] = decide (c = 106) := by simp [preB]
    obtain ⟨b1, o1, c1, rfl, hc0⟩ := hx.at (i := 0) (by simp)
    simp only [List.getElem_cons_zero, Nat.add_zero] at hc0
    have hL : (c :: t).length = t.length + 1 := rfl
    rw [hL] at h0 hl ⊢
    have hT0 : (0 : Int).toNat = 0 := rfl
    have hT1 : (1 : Int).toNat = 1 := rfl
    by_cases h1 : c = 106
    · rw [hpre, decide_eq_true h1, Bool.true_and, List.drop_succ_cons, List.drop_zero] at hk
      subst h1
      have hcp : t.length + 1 ≤ c1 := by
        obtain ⟨q, c, e, h⟩ := hx.eq
        injection e with _ _ e3; subst e3; exact h
      have hsl : 0 ≤ (1 : Int) ∧ (1 : Int) ≤ ((t.length + 1 : Nat) : Int) := by omega
      have hsl1 : (1 : Int) ≤ ((t.length + 1 : Nat) : Int) := by omega
      have hsl2 : 0 ≤ ((t.length + 1 : Nat) : Int) ∧ ((t.length + 1 : Nat) : Int) ≤ c1 := by omega
      have hsl3 : ((t.length + 1 : Nat) : Int) ≤ c1 := by omega
      have hcut := (cut_lo hx (l := 1) (by simp)).2
      simp only [List.drop_succ_cons, List.drop_zero, hL] at hcut
      (refine W_at c21_ok ?_; refine ⟨_, rfl, ?_⟩; simp (disch := first | omega | assumption | rfl | (simp only [vcS] <;> omega) | fail) only [↓vcL1, ptS2_eq, ↓vcA, vcB, ↓vcD, vcE, ↓reduceIte, Nat.reduceEqDiff, Nat.reduceAdd, Nat.reduceMul, Nat.reduceLeDiff, Int.reduceLE, Int.reduceLT, Int.reduceEq, Int.reduceToNat, Int.reduceAdd, Int.reduceSub, Int.reduceMul, Int.reduceNeg, reduceCtorEq, Option.bind_some, Option.map_some, List.length_cons, List.length_nil, vcM, List.getElem?_toArray, List.getElem?_cons_zero, List.getElem?_cons_succ, h0, hc0, hT0, hT1, hsl, hsl1, hsl2, hsl3, Int.toNat_natCast, Nat.mul_one, Nat.zero_mul, Nat.add_zero])
      refine callV_ret (rpushes_ok w1 _ t hcut (fun z hz => hb z (by simp [hz])) (by omega)) ?_
      rintro _ w2 ⟨rfl, hE2⟩
      cases hp : pushesF t with
      | false =>
        rw [hp] at hk
        simp (disch := first | omega | assumption | rfl | (simp only [vcS] <;> omega) | fail) only [↓vcL2, ptS1_eq, ↓vcA, vcB, ↓vcD, vcE, ↓reduceIte, Nat.reduceEqDiff, Nat.reduceAdd, Nat.reduceMul, Nat.reduceLeDiff, Int.reduceLE, Int.reduceLT, Int.reduceEq, Int.reduceToNat, Int.reduceAdd, Int.reduceSub, Int.reduceMul, Int.reduceNeg, reduceCtorEq, Option.bind_some, Option.map_some, List.length_cons, List.length_nil, vcM, List.getElem?_toArray, List.getElem?_cons_zero, List.getElem?_cons_succ]
        (refine W_at c21_ok ?_; refine ⟨_, rfl, ?_⟩; simp (disch := first | omega | assumption | rfl | (simp only [vcS] <;> omega) | fail) only [↓ptV_l, ↓vcA, vcB, ↓vcD, vcE, ↓reduceIte, Nat.reduceEqDiff, Nat.reduceAdd, Nat.reduceMul, Nat.reduceLeDiff, Int.reduceLE, Int.reduceLT, Int.reduceEq, Int.reduceToNat, Int.reduceAdd, Int.reduceSub, Int.reduceMul, Int.reduceNeg, reduceCtorEq, Option.bind_some, Option.map_some, List.length_cons, List.length_nil, vcM, List.getElem?_toArray, List.getElem?_cons_zero, List.getElem?_cons_succ])
        exact rk_end (hE.ext hE2) hk _
      | true =>
        rw [hp] at hk
        simp (disch := first | omega | assumption | rfl | (simp only [vcS] <;> omega) | fail) only [↓vcL2, ptS1_eq, ↓vcA, vcB, ↓vcD, vcE, ↓reduceIte, Nat.reduceEqDiff, Nat.reduceAdd, Nat.reduceMul, Nat.reduceLeDiff, Int.reduceLE, Int.reduceLT, Int.reduceEq, Int.reduceToNat, Int.reduceAdd, Int.reduceSub, Int.reduceMul, Int.reduceNeg, reduceCtorEq, Option.bind_some, Option.map_some, List.length_cons, List.length_nil, vcM, List.getElem?_toArray, List.getElem?_cons_zero, List.getElem?_cons_succ]
        (refine W_at c21_ok ?_; refine ⟨_, rfl, ?_⟩; simp (disch := first | omega | assumption | rfl | (simp only [vcS] <;> omega) | fail) only [↓ptV_l, ↓vcA, vcB, ↓vcD, vcE, ↓reduceIte, Nat.reduceEqDiff, Nat.reduceAdd, Nat.reduceMul, Nat.reduceLeDiff, Int.reduceLE, Int.reduceLT, Int.reduceEq, Int.reduceToNat, Int.reduceAdd, Int.reduceSub, Int.reduceMul, Int.reduceNeg, reduceCtorEq, Option.bind_some, Option.map_some, List.length_cons, List.length_nil, vcM, List.getElem?_toArray, List.getElem?_cons_zero, List.getElem?_cons_succ])
        (refine W_at c21_ok ?_; refine ⟨_, rfl, ?_⟩; simp (disch := first | omega | assumption | rfl | (simp only [vcS] <;> omega) | fail) only [↓vcL1, ptS2_eq, ↓vcA, vcB, ↓vcD, vcE, ↓reduceIte, Nat.reduceEqDiff, Nat.reduceAdd, Nat.reduceMul, Nat.reduceLeDiff, Int.reduceLE, Int.reduceLT, Int.reduceEq, Int.reduceToNat, Int.reduceAdd, Int.reduceSub, Int.reduceMul, Int.reduceNeg, reduceCtorEq, Option.bind_some, Option.map_some, List.length_cons, List.length_nil, vcM, List.getElem?_toArray, List.getElem?_cons_zero, List.getElem?_cons_succ, hT1, hsl, hsl1, hsl2, hsl3, Int.toNat_natCast])
        refine callV_ret (copy_ok w2 _ t (hcut.ext hE2) (by omega)) ?_
        rintro d w3 hN
        have hdc : d.cells = #[d] := by obtain ⟨q, c, e, _⟩ := hN.own.rd.is; rw [e]; rfl
        simp (disch := first | omega | assumption | rfl | (simp only [vcS] <;> omega) | fail) only [↓vcL2, ptS1_eq, ↓vcA, vcB, ↓vcD, vcE, ↓reduceIte, Nat.reduceEqDiff, Nat.reduceAdd, Nat.reduceMul, Nat.reduceLeDiff, Int.reduceLE, Int.reduceLT, Int.reduceEq, Int.reduceToNat, Int.reduceAdd, Int.reduceSub, Int.reduceMul, Int.reduceNeg, reduceCtorEq, Option.bind_some, Option.map_some, List.length_cons, List.length_nil, vcM, List.getElem?_toArray, List.getElem?_cons_zero, List.getElem?_cons_succ, hdc]
        (refine W_at c21_ok ?_; refine ⟨_, rfl, ?_⟩; simp (disch := first | omega | assumption | rfl | (simp only [vcS] <;> omega) | fail) only [↓ptV_l, ↓vcA, vcB, ↓vcD, vcE, ↓reduceIte, Nat.reduceEqDiff, Nat.reduceAdd, Nat.reduceMul, Nat.reduceLeDiff, Int.reduceLE, Int.reduceLT, Int.reduceEq, Int.reduceToNat, Int.reduceAdd, Int.reduceSub, Int.reduceMul, Int.reduceNeg, reduceCtorEq, Option.bind_some, Option.map_some, List.length_cons, List.length_nil, vcM, List.getElem?_toArray, List.getElem?_cons_zero, List.getElem?_cons_succ, Ret_returned])
        exact ⟨_, by rw [hk]; rfl, by rw [hk]; exact PartsAt.lit1 hN.own.rd, ((hE.ext hE2).ext hN.ext).alloc _⟩
    · rw [hpre, decide_eq_false h1, Bool.false_and] at hk
      (refine W_at c21_ok ?_; refine ⟨_, rfl, ?_⟩; simp (disch := first | omega | assumption | rfl | (simp only [vcS] <;> omega) | fail) only [↓ptV_l, ↓vcA, vcB, ↓vcD, vcE, ↓reduceIte, Nat.reduceEqDiff, Nat.reduceAdd, Nat.reduceMul, Nat.reduceLeDiff, Int.reduceLE, Int.reduceLT, Int.reduceEq, Int.reduceToNat, Int.reduceAdd, Int.reduceSub, Int.reduceMul, Int.reduceNeg, reduceCtorEq, Option.bind_some, Option.map_some, List.length_cons, List.length_nil, vcM, List.getElem?_toArray, List.getElem?_cons_zero, List.getElem?_cons_succ, h0, hc0, h1, hT0, Nat.mul_one, Nat.zero_mul, Nat.add_zero])
      (refine W_at c21_ok ?_; refine ⟨_, rfl, ?_⟩; simp (disch := first | omega | assumption | rfl | (simp only [vcS] <;> omega) | fail) only [↓ptV_l, ↓vcA, vcB, ↓vcD, vcE, ↓reduceIte, Nat.reduceEqDiff, Nat.reduceAdd, Nat.reduceMul, Nat.reduceLeDiff, Int.reduceLE, Int.reduceLT, Int.reduceEq, Int.reduceToNat, Int.reduceAdd, Int.reduceSub, Int.reduceMul, Int.reduceNeg, reduceCtorEq, Option.bind_some, Option.map_some, List.length_cons, List.length_nil, vcM, List.getElem?_toArray, List.getElem?_cons_zero, List.getElem?_cons_succ])
      exact rk_end hE hk _
  · have hs : s = [] := List.eq_nil_of_length_eq_zero (by omega)
    have hk0 : kindG s = (0, []) := by rw [hk, hs]; rfl
    (refine W_at c21_ok ?_; refine ⟨_, rfl, ?_⟩; simp (disch := first | omega | assumption | rfl | (simp only [vcS] <;> omega) | fail) only [↓ptV_l, ↓vcA, vcB, ↓vcD, vcE, ↓reduceIte, Nat.reduceEqDiff, Nat.reduceAdd, Nat.reduceMul, Nat.reduceLeDiff, Int.reduceLE, Int.reduceLT, Int.reduceEq, Int.reduceToNat, Int.reduceAdd, Int.reduceSub, Int.reduceMul, Int.reduceNeg, reduceCtorEq, Option.bind_some, Option.map_some, List.length_cons, List.length_nil, vcM, List.getElem?_toArray, List.getElem?_cons_zero, List.getElem?_cons_succ, h0])
    (refine W_at c21_ok ?_; refine ⟨_, rfl, ?_⟩; simp (disch := first | omega | assumption | rfl | (simp only [vcS] <;> omega) | fail) only [↓ptV_l, ↓vcA, vcB, ↓vcD, vcE, ↓reduceIte, Nat.reduceEqDiff, Nat.reduceAdd, Nat.reduceMul, Nat.reduceLeDiff, Int.reduceLE, Int.reduceLT, Int.reduceEq, Int.reduceToNat, Int.reduceAdd, Int.reduceSub, Int.reduceMul, Int.reduceNeg, reduceCtorEq, Option.bind_some, Option.map_some, List.length_cons, List.length_nil, vcM, List.getElem?_toArray, List.getElem?_cons_zero, List.getElem?_cons_succ])
    exact rk_end hE hk0 _
end Go.Proofs
