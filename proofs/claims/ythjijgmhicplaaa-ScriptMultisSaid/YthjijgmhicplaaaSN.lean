/- 'multi': a script of several keys. -/
import Derived.Test.YthjijgmhicplaaaSM
set_option linter.unusedSimpArgs false
set_option linter.unusedVariables false
set_option linter.constructorNameAsVariable false
namespace Go.Proofs
open Go.Vc Go.RowKit
set_option maxRecDepth 10000

abbrev PE := List Int × Value
/-- Lists of bytes of one's own, above m. -/
structure PtsAt (m : Nat) (w : World) (v : Value) (ts : List PE) : Prop where
  row : w.ownsRow m 22 1 v ts.length (ts.map (·.2))
  own : ∀ t ∈ ts, Own1 w t.2 t.1 ∧ ∀ g, blk t.2 g → m ≤ g
  dist : Dist (ts.map (·.2))
theorem PtsAt.keep {S : Nat → Prop} {m : Nat} {w w' : World} {v : Value} {ts : List PE} (h : PtsAt m w v ts) (k : Keep S w w') (hS : ∀ g c t, (t = 22 ∨ t = 5) → w.heap[g]? = some (.cells c t (0, 0)) → m ≤ g → ¬ S g) : PtsAt m w' v ts := by
  refine ⟨ownsRow_keep h.row k fun g hg => ?_, fun t ht => ⟨(h.own t ht).1.keep k fun g hg => ?_, (h.own t ht).2⟩, h.dist⟩
  · obtain ⟨c, e⟩ := row_type h.row hg
    exact hS g _ _ (.inl rfl) e (own_block h.row hg)
  · obtain ⟨c, e⟩ := row_type (h.own t ht).1 hg
    exact hS g _ _ (.inr rfl) e ((h.own t ht).2 g hg)
theorem PtsAt.ext {m : Nat} {w w' : World} {v : Value} {ts : List PE} (h : PtsAt m w v ts) (k : Ext w w') : PtsAt m w' v ts := h.keep k fun _ _ _ _ _ _ h => h
theorem appV_one3 {w : World} {base el size bytes : Nat} {z : List Value} {v : Value} {n : Nat} {xs : List Value} {cs : List Value} {K : Value → World → Prop}
    (h : w.ownsRow base el size v n xs) (hc : cs.length = size) (hf : flat cs.toArray) (hlen : n + 1 ≤ maxLen) (hb : (n + 1) * bytes ≤ 140737488355328) (hz : z.length = size) (hbase : base ≤ w.heap.size) (hs : 0 < size)
    (hk : ∀ v' w', w'.ownsRow base el size v' (n + 1) (xs ++ cs) → Keep (fun g => v.ownBlock = some g) w w' → (∀ g, v'.ownBlock = some g → v.ownBlock = some g ∨ w.heap.size ≤ g) → K v' w') :
    appV el size bytes z v (.slice (some ⟨w.heap.size, 0, none⟩) 1 1) (w.alloc (.cells cs.toArray el)) K := by
  have hE : Ext w (w.alloc (.cells cs.toArray el)) := (Keep.refl _ w).alloc _
  have hr : rdS (w.alloc (.cells cs.toArray el)) size (.slice (some ⟨w.heap.size, 0, none⟩) 1 1) = some cs.toArray := by
    simp only [rdS, rdN_heap, heap_new _ _ _ rfl, Nat.one_mul]
    rw [if_neg (by omega), rdO_some _ _ _ _ _ (by simp [hc])]
    simp only [Nat.zero_add]
    rw [ext_all _ _ (by simp [hc])]
  refine appV_own3 (ownsRow_keep h hE fun _ _ h => h) rfl hr hf hlen hb hz (by rw [size_alloc]; omega) hs fun v' w' ho hg hgb => hk v' w' ho ?_ fun g hg => (hgb g hg).imp id fun h => by rw [size_alloc] at h; omega
  exact Keep.grown (hE.mono fun _ h => h.elim) hg fun k _ h => h
/-- One more. -/
theorem PtsAt.push {m : Nat} {w : World} {v data : Value} {ts : List PE} {d : List Int} {K : Value → World → Prop} (h : PtsAt m w v ts) (hm : m ≤ w.heap.size) (hlen : ts.length ≤ 1000000) (ho : Own1 w data d) (hd : ∀ g, blk data g → m ≤ g)
    (hn : ∀ t ∈ ts, ∀ g, blk t.2 g → ¬ blk data g)
    (hk : ∀ v' w', PtsAt m w' v' (ts ++ [(d, data)]) → Keep (blk v) w w' → (∀ g, blk v' g → blk v g ∨ w.heap.size ≤ g) → K v' w') :
    appV 22 1 24 [.slice none 0 0] v (.slice (some ⟨w.heap.size, 0, none⟩) 1 1) (w.alloc (.cells [data].toArray 22)) K := by
  have hml : maxLen = 9223372036854775807 := rfl
  refine appV_one3 h.row rfl (by intro z hz; simp at hz; subst hz; exact ho.rd.one) (by omega) (by omega) rfl hm (by omega) fun v' w' h1 h2 h3 => hk v' w' ⟨?_, fun t ht => ?_, ?_⟩ h2 h3
  · rw [List.length_append, List.length_cons, List.length_nil, List.map_append]; exact h1
  · have hne : ∀ g, ∀ u b, Own1 w u b → blk u g → ¬ v.ownBlock = some g := fun g u b hu hg hv => by
      obtain ⟨c1, e1⟩ := row_type hu hg
      obtain ⟨c2, e2⟩ := row_type h.row hv
      rw [e1] at e2; cases e2
    rw [List.mem_append] at ht
    rcases ht with ht | ht
    · exact ⟨(h.own t ht).1.keep h2 fun g hg => hne g _ _ (h.own t ht).1 hg, (h.own t ht).2⟩
    · simp only [List.mem_singleton] at ht
      subst ht
      exact ⟨ho.keep h2 fun g hg => hne g _ _ ho hg, hd⟩
  · rw [List.map_append]
    refine h.dist.snoc fun j hj g hg => ?_
    have hj' : j < ts.length := by simpa using hj
    rw [List.getElem_map] at hg
    exact hn _ (List.getElem_mem hj') g hg
theorem PtsAt.lit {m : Nat} {w : World} {v : Value} {d : List Int} (ho : Own1 w v d) (hd : ∀ g, blk v g → m ≤ g) (hm : m ≤ w.heap.size) : PtsAt m (w.alloc (.cells [v].toArray 22)) (.slice (some ⟨w.heap.size, 0, none⟩) 1 1) [(d, v)] :=
  ⟨ownsRow_lit (w := w) (el := 22) (size := 1) (n := 1) (cs := [v].toArray) hm rfl (by decide), fun t ht => by
    simp only [List.mem_singleton] at ht
    subst ht
    exact ⟨ho.ext ((Keep.refl _ w).alloc _), hd⟩, fun i j hi hj g _ _ => by simp at hi hj; omega⟩
theorem PtsAt.parts {m : Nat} {w : World} {v : Value} {ts : List PE} (h : PtsAt m w v ts) : PartsAt w v (ts.map (·.1)) := by
  refine ⟨ts.map (·.2), rdS_own h.row, by simp, ?_, fun i hi hi' => ?_⟩
  · rcases h.row.2 with ⟨e, hn⟩ | ⟨g, cap, cur, e, _⟩
    · rw [List.length_map, hn]; exact ⟨_, _, e⟩
    · rw [List.length_map]; exact ⟨_, _, e⟩
  · have hi2 : i < ts.length := by simpa using hi
    have := (h.own _ (List.getElem_mem hi2)).1.rd
    simpa using this
def pieceF (keys : List Int) (i : Nat) : List Int := (keys.take (34 * i + 34)).drop (34 * i)
def headOK (keys : List Int) (n : Nat) : Bool := (List.range n).all fun i => (pieceF keys i).head? == some 33
def multiF (s : List Int) : Option (List (List Int)) :=
  if s.length < 3 ∨ s.getLast? ≠ some 174 then none else
  if smallF (s.headD 0) < 1 ∨ smallF (s.headD 0) > smallF (s.getD (s.length - 2) 0) ∨ (((s.take (s.length - 2)).drop 1).length : Int) ≠ 34 * smallF (s.getD (s.length - 2) 0) ∨ headOK ((s.take (s.length - 2)).drop 1) (smallF (s.getD (s.length - 2) 0)).toNat = false then none
  else some ([smallF (s.headD 0)] :: (List.range (smallF (s.getD (s.length - 2) 0)).toNat).map fun i => (pieceF ((s.take (s.length - 2)).drop 1) i).drop 1)
def MulTo (w w' : World) (s : List Int) (u : Value) : Prop := Ext w w' ∧ match multiF s with
  | none => u = .slice none 0 0
  | some ps => ∃ ts : List PE, ts.map (·.1) = ps ∧ PtsAt w.heap.size w' u ts
theorem setPs_1 (p : Nat) (v : Value) (e : Env) : setPs [p] [v] e = (p, v) :: e := rfl
theorem keepsFrom_of {S : Nat → Prop} {B : Nat} {w w' : World} (h : Keep S w w') (hS : ∀ k, S k → ∀ o, w.heap[k]? = some o → o.isCells = true) : KeepsFrom B w w' := by
  refine ⟨h.size, fun k o _ hk ho => ?_⟩
  have hs : ¬ S k := fun hs => by rw [hS k hs o hk] at ho; cases ho
  exact (h.block k (Array.getElem?_eq_some_iff.1 hk).1 hs).trans hk
theorem Keep.below {S : Nat → Prop} {B : Nat} {w w' : World} (h : Keep S w w') (hS : ∀ k, S k → B ≤ k) (hB : B ≤ w.heap.size) : Below B w w' := below_ext (h.mono hS) hB
theorem at_own {B : Nat} {w w' : World} {row : Option Nat} {p : Nat} {c : Array Value} {t : TypeId} {fr : Nat × Nat} (hg : w.grownBy w' row) (hr : ∀ r, row = some r → B ≤ r ∧ ∃ o : Obj, w.heap[r]? = some o ∧ o.isCells = false)
    (h : w.heap[p]? = some (.cells c t fr)) : w'.heap[p]? = some (.cells c t fr) :=
  (keep_grow hg hr).at h fun hn => by obtain ⟨_, o, ho, hc⟩ := hn; rw [h] at ho; cases ho; cases hc
theorem pts_own {B m : Nat} {w w' : World} {row : Option Nat} {v : Value} {ts : List PE} (hg : w.grownBy w' row) (hr : ∀ r, row = some r → B ≤ r ∧ ∃ o : Obj, w.heap[r]? = some o ∧ o.isCells = false)
    (h : PtsAt m w v ts) : PtsAt m w' v ts :=
  h.keep (keep_grow hg hr) fun g c t _ ho _ hn => by obtain ⟨_, o', ho', hc'⟩ := hn; rw [ho] at ho'; cases ho'; cases hc'
set_option maxHeartbeats 3200000 in
theorem multi_ok (w : World) (x : Value) (s : List Int) (hx : Rd w x s) (hb : byt s) (hl : s.length ≤ 1000000) :
    Calls Try.prog 56 #[x] w (Ret fun u w' => MulTo w w' s u) := by
  refine calls_of_ct 3 t56_ok (Nat.le_of_ble_eq_true rfl) ?_
  simp only [List.toList_toArray]
  simp only [argE_nil, argE_cons, Nat.reduceAdd, Nat.zero_add]
  have hlen := hx.len
  have hz1 : zc [(1, Value.slice none 0 0)] = #[.slice none 0 0] := rfl
  simp (disch := first | omega | assumption | rfl | (simp only [vcS] <;> omega) | fail) only [t56, ↓vcC, slc3_s, ↓ptV_l, ↓vcA, vcB, ↓vcD, vcE, ↓reduceIte, Nat.reduceEqDiff, Nat.reduceAdd, Nat.reduceMul, Nat.reduceLeDiff, Int.reduceLE, Int.reduceLT, Int.reduceEq, Int.reduceToNat, Int.reduceAdd, Int.reduceSub, Int.reduceMul, Int.reduceNeg, reduceCtorEq, Option.bind_some, Option.map_some, List.length_cons, List.length_nil, vcM, List.getElem?_toArray, List.getElem?_cons_zero, List.getElem?_cons_succ, hz1]
  have h2 : (w.alloc (Obj.cells #[.slice none 0 0] 40)).heap[w.heap.size]? = some (.cells #[.slice none 0 0] 40 (0, 0)) := heap_new _ _ _ rfl
  have hE : Ext w (w.alloc (Obj.cells #[.slice none 0 0] 40)) := by (repeat' first | exact Keep.refl _ _ | assumption | refine Keep.drew ?_ | refine Keep.alloc ?_ _ | refine Keep.putN ?_ _ ?_ | refine Keep.setCell ?_ _ ?_ | refine Keep.setO ?_ _ ?_ | exact fun _ => Or.inl rfl | exact fun _ => Or.inr rfl | exact fun _ => rfl | (intro hh; exfalso; ((try simp only [vcS] at hh) <;> omega)))
  have hS1 : w.heap.size < (w.alloc (Obj.cells #[.slice none 0 0] 40)).heap.size := by simp
  have hp2' : w.heap.size ≤ w.heap.size := Nat.le_refl _
  generalize hp2 : w.heap.size = p2 at h2 hp2' hS1 ⊢
  generalize World.alloc _ _ = w1 at h2 hE hS1 ⊢
  have hend : ∀ (K : KD) (e : Env) (wz : World), Vc.look e 2 = some (.pointer (some ⟨p2, 0, none⟩)) → wz.heap[p2]? = some (.cells #[.slice none 0 0] 40 (0, 0)) → Ext w wz → multiF s = none →
      wr1 wz p2 0 ∧ nxV Try.prog 68 .ret none 3 K (lvX [.c1 2] (Ret fun u w' => MulTo w w' s u)) [] e (wz.setCell ⟨p2, 0, none⟩ (.slice none 0 0)) := by
    intro K e wz l2 hh hEz hm
    refine ⟨wr1_of hh (by simp), ?_⟩
    have h3 : (wz.setCell ⟨p2, 0, none⟩ (.slice none 0 0)).heap[p2]? = some (.cells #[.slice none 0 0] 40 (0, 0)) := by rw [heap_setCell_eq hh]; rfl
    (refine nx_at ?_; simp (disch := first | omega | assumption | rfl | (simp only [vcS] <;> omega) | fail) only [↓vcC, slc3_s, ↓ptV_l, ↓vcA, vcB, ↓vcD, vcE, ↓reduceIte, Nat.reduceEqDiff, Nat.reduceAdd, Nat.reduceMul, Nat.reduceLeDiff, Int.reduceLE, Int.reduceLT, Int.reduceEq, Int.reduceToNat, Int.reduceAdd, Int.reduceSub, Int.reduceMul, Int.reduceNeg, reduceCtorEq, Option.bind_some, Option.map_some, List.length_cons, List.length_nil, vcM, List.getElem?_toArray, List.getElem?_cons_zero, List.getElem?_cons_succ, l2, h3, Ret_returned])
    refine ⟨hEz.setCell _ (by omega), ?_⟩
    rw [hm]
  by_cases h3 : (s.length : Int) < 3
  · (refine nx_at ?_; simp (disch := first | omega | assumption | rfl | (simp only [vcS] <;> omega) | fail) only [↓vcC, slc3_s, ↓ptV_l, ↓vcA, vcB, ↓vcD, vcE, ↓reduceIte, Nat.reduceEqDiff, Nat.reduceAdd, Nat.reduceMul, Nat.reduceLeDiff, Int.reduceLE, Int.reduceLT, Int.reduceEq, Int.reduceToNat, Int.reduceAdd, Int.reduceSub, Int.reduceMul, Int.reduceNeg, reduceCtorEq, Option.bind_some, Option.map_some, List.length_cons, List.length_nil, vcM, List.getElem?_toArray, List.getElem?_cons_zero, List.getElem?_cons_succ, hlen, h3])
    (refine nx_at ?_; simp (disch := first | omega | assumption | rfl | (simp only [vcS] <;> omega) | fail) only [↓vcC, slc3_s, ↓ptV_l, ↓vcA, vcB, ↓vcD, vcE, ↓reduceIte, Nat.reduceEqDiff, Nat.reduceAdd, Nat.reduceMul, Nat.reduceLeDiff, Int.reduceLE, Int.reduceLT, Int.reduceEq, Int.reduceToNat, Int.reduceAdd, Int.reduceSub, Int.reduceMul, Int.reduceNeg, reduceCtorEq, Option.bind_some, Option.map_some, List.length_cons, List.length_nil, vcM, List.getElem?_toArray, List.getElem?_cons_zero, List.getElem?_cons_succ])
    exact hend _ _ w1 rfl h2 hE (by rw [multiF, if_pos (by omega)])
  have hil : s.length - 1 < s.length := by omega
  have hiL : s.length - 2 < s.length := by omega
  obtain ⟨b, o, c, rfl, hcell⟩ := (hx.ext hE).at hil
  have hws : IntKind.i64.wrap ((s.length : Int) - 1) = ((s.length - 1 : Nat) : Int) := by rw [wrap_i64 (by omega) (by omega)]; omega
  have hi2 : 0 ≤ ((s.length - 1 : Nat) : Int) ∧ ((s.length - 1 : Nat) : Int) < (s.length : Nat) := by omega
  by_cases hlast : s[s.length - 1] = 174
  · rw [hlast] at hcell
    (refine nx_at ?_; simp (disch := first | omega | assumption | rfl | (simp only [vcS] <;> omega) | fail) only [↓vcC, slc3_s, ↓ptV_l, ↓vcA, vcB, ↓vcD, vcE, ↓reduceIte, Nat.reduceEqDiff, Nat.reduceAdd, Nat.reduceMul, Nat.reduceLeDiff, Int.reduceLE, Int.reduceLT, Int.reduceEq, Int.reduceToNat, Int.reduceAdd, Int.reduceSub, Int.reduceMul, Int.reduceNeg, reduceCtorEq, Option.bind_some, Option.map_some, List.length_cons, List.length_nil, vcM, List.getElem?_toArray, List.getElem?_cons_zero, List.getElem?_cons_succ, h3, hws, hi2, Int.toNat_natCast, Nat.mul_one, hcell])
    (refine nx_at ?_; simp (disch := first | omega | assumption | rfl | (simp only [vcS] <;> omega) | fail) only [↓vcC, slc3_s, ↓ptV_l, ↓vcA, vcB, ↓vcD, vcE, ↓reduceIte, Nat.reduceEqDiff, Nat.reduceAdd, Nat.reduceMul, Nat.reduceLeDiff, Int.reduceLE, Int.reduceLT, Int.reduceEq, Int.reduceToNat, Int.reduceAdd, Int.reduceSub, Int.reduceMul, Int.reduceNeg, reduceCtorEq, Option.bind_some, Option.map_some, List.length_cons, List.length_nil, vcM, List.getElem?_toArray, List.getElem?_cons_zero, List.getElem?_cons_succ])
    have hnl : ¬ (s.length < 3 ∨ s.getLast? ≠ some 174) := by
      intro h
      rcases h with h | h
      · omega
      · apply h
        rw [List.getLast?_eq_getElem?, List.getElem?_eq_getElem hil, hlast]
    have hi0 : 0 < s.length := by omega
    obtain ⟨b0, o0, c0, e0, hc0⟩ := (hx.ext hE).at hi0
    injection e0 with e1 e2 e3
    cases e1; subst e3
    obtain ⟨b0, o0, c0, e0, hcL⟩ := (hx.ext hE).at hiL
    injection e0 with e1 e2 e3
    cases e1; subst e3
    rw [Nat.add_zero] at hc0
    have hcap : s.length ≤ c := by
      obtain ⟨q, c', e, h⟩ := hx.eq
      injection e with _ _ e3; subst e3; exact h
    have hb0 := hb _ (List.getElem_mem hi0)
    have hbL := hb _ (List.getElem_mem hiL)
    have hf0 : s.headD 0 = s[0] := by
      cases s with
      | nil => simp at hi0
      | cons a t => rfl
    have hfL : s.getD (s.length - 2) 0 = s[s.length - 2] := by simp [List.getD, hiL]
    generalize hmm : s[0] = mc at hc0 hb0 hf0
    generalize hnn : s[s.length - 2] = nc at hcL hbL hfL
    have hws2 : IntKind.i64.wrap ((s.length : Int) - 2) = ((s.length - 2 : Nat) : Int) := by rw [wrap_i64 (by omega) (by omega)]; omega
    have i1 : (0 : Int) < (s.length : Nat) := by omega
    have i2 : 0 ≤ ((s.length - 2 : Nat) : Int) ∧ ((s.length - 2 : Nat) : Int) < (s.length : Nat) := by omega
    have hT0 : (0 : Int).toNat = 0 := rfl
    (refine nx_at ?_; simp (disch := first | omega | assumption | rfl | (simp only [vcS] <;> omega) | fail) only [↓vcC, slc3_s, ↓ptV_l, ↓vcA, vcB, ↓vcD, vcE, ↓reduceIte, Nat.reduceEqDiff, Nat.reduceAdd, Nat.reduceMul, Nat.reduceLeDiff, Int.reduceLE, Int.reduceLT, Int.reduceEq, Int.reduceToNat, Int.reduceAdd, Int.reduceSub, Int.reduceMul, Int.reduceNeg, reduceCtorEq, Option.bind_some, Option.map_some, List.length_cons, List.length_nil, vcM, List.getElem?_toArray, List.getElem?_cons_zero, List.getElem?_cons_succ, hws2, i1, i2, hT0, Int.toNat_natCast, Nat.mul_one, hc0, hcL])
    refine callV_ret (small_ok w1.drew mc hb0) ?_
    rintro _ wq ⟨rfl, hw⟩
    obtain rfl : w1.drew = wq := hw.symm
    simp (disch := first | omega | assumption | rfl | (simp only [vcS] <;> omega) | fail) only [↓vcC, slc3_s, ↓ptV_l, ↓vcA, vcB, ↓vcD, vcE, ↓reduceIte, Nat.reduceEqDiff, Nat.reduceAdd, Nat.reduceMul, Nat.reduceLeDiff, Int.reduceLE, Int.reduceLT, Int.reduceEq, Int.reduceToNat, Int.reduceAdd, Int.reduceSub, Int.reduceMul, Int.reduceNeg, reduceCtorEq, Option.bind_some, Option.map_some, List.length_cons, List.length_nil, vcM, List.getElem?_toArray, List.getElem?_cons_zero, List.getElem?_cons_succ, i2, Int.toNat_natCast, Nat.mul_one, hcL]
    refine callV_ret (small_ok w1.drew nc hbL) ?_
    rintro _ wq ⟨rfl, hw⟩
    obtain rfl : w1.drew = wq := hw.symm
    have hEd : Ext w w1.drew := hE.ext (Keep.refl _ w1).drew
    have hS2 : p2 < w1.drew.heap.size := hS1
    have h2d : w1.drew.heap[p2]? = some (.cells #[.slice none 0 0] 40 (0, 0)) := h2
    clear hcL hc0 hcell
    generalize w1.drew = w2 at hEd hS2 h2d ⊢
    first | (simp (disch := first | omega | assumption | rfl | (simp only [vcS] <;> omega) | fail) only [↓vcC, slc3_s, ↓ptV_l, ↓vcA, vcB, ↓vcD, vcE, ↓reduceIte, Nat.reduceEqDiff, Nat.reduceAdd, Nat.reduceMul, Nat.reduceLeDiff, Int.reduceLE, Int.reduceLT, Int.reduceEq, Int.reduceToNat, Int.reduceAdd, Int.reduceSub, Int.reduceMul, Int.reduceNeg, reduceCtorEq, Option.bind_some, Option.map_some, List.length_cons, List.length_nil, vcM, List.getElem?_toArray, List.getElem?_cons_zero, List.getElem?_cons_succ]) | skip
    have hcut := hx.cut (l := 1) (j := s.length - 2) (by omega) (by omega)
    have hbk : byt ((s.take (s.length - 2)).drop 1) := byt_drop (byt_take hb _) _
    have hmF : multiF s = if smallF mc < 1 ∨ smallF mc > smallF nc ∨ (((s.take (s.length - 2)).drop 1).length : Int) ≠ 34 * smallF nc ∨ headOK ((s.take (s.length - 2)).drop 1) (smallF nc).toNat = false then none
        else some ([smallF mc] :: (List.range (smallF nc).toNat).map fun i => (pieceF ((s.take (s.length - 2)).drop 1) i).drop 1) := by
      rw [multiF, if_neg hnl, hf0, hfL]
    have i3 : 0 ≤ ((s.length - 2 : Nat) : Int) ∧ ((s.length - 2 : Nat) : Int) ≤ (c : Nat) := by omega
    have i4 : 1 ≤ ((s.length - 2 : Nat) : Int) := by omega
    have i5 : 0 ≤ (1 : Int) ∧ 1 ≤ ((s.length - 2 : Nat) : Int) := by omega
    have hT1 : (1 : Int).toNat = 1 := rfl
    (refine nx_at ?_; simp (disch := first | omega | assumption | rfl | (simp only [vcS] <;> omega) | fail) only [↓vcC, slc3_s, ↓ptV_l, ↓vcA, vcB, ↓vcD, vcE, ↓reduceIte, Nat.reduceEqDiff, Nat.reduceAdd, Nat.reduceMul, Nat.reduceLeDiff, Int.reduceLE, Int.reduceLT, Int.reduceEq, Int.reduceToNat, Int.reduceAdd, Int.reduceSub, Int.reduceMul, Int.reduceNeg, reduceCtorEq, Option.bind_some, Option.map_some, List.length_cons, List.length_nil, vcM, List.getElem?_toArray, List.getElem?_cons_zero, List.getElem?_cons_succ, hws2, i3, i4, i5, hT1, Int.toNat_natCast])
    have hkl : ((s.take (s.length - 2)).drop 1).length = s.length - 2 - 1 := by rw [List.length_drop, List.length_take]; omega
    generalize (s.take (s.length - 2)).drop 1 = keys at hcut hmF hkl hbk
    generalize advA 1 (some ⟨b, o, none⟩) c 1 = qk at hcut ⊢
    generalize c - 1 = ck at hcut ⊢
    have hkl2 : s.length - 2 - 1 = keys.length := hkl.symm
    rw [hkl2] at hcut ⊢
    have hkb : keys.length ≤ 1000000 := by omega
    clear hkl hkl2 i3 i4 i5 hws2 i1 i2 hws hi2 h3 hnl
    have hmr := smallF_r mc
    have hnr := smallF_r nc
    generalize smallF mc = m at hmF hmr ⊢
    generalize smallF nc = n at hmF hnr ⊢
    have hwm : IntKind.i64.wrap (n * 34) = n * 34 := wrap_i64 (by omega) (by omega)
    by_cases g1 : m < 1
    · (refine nx_at ?_; simp (disch := first | omega | assumption | rfl | (simp only [vcS] <;> omega) | fail) only [↓vcC, slc3_s, ↓ptV_l, ↓vcA, vcB, ↓vcD, vcE, ↓reduceIte, Nat.reduceEqDiff, Nat.reduceAdd, Nat.reduceMul, Nat.reduceLeDiff, Int.reduceLE, Int.reduceLT, Int.reduceEq, Int.reduceToNat, Int.reduceAdd, Int.reduceSub, Int.reduceMul, Int.reduceNeg, reduceCtorEq, Option.bind_some, Option.map_some, List.length_cons, List.length_nil, vcM, List.getElem?_toArray, List.getElem?_cons_zero, List.getElem?_cons_succ, g1])
      (refine nx_at ?_; simp (disch := first | omega | assumption | rfl | (simp only [vcS] <;> omega) | fail) only [↓vcC, slc3_s, ↓ptV_l, ↓vcA, vcB, ↓vcD, vcE, ↓reduceIte, Nat.reduceEqDiff, Nat.reduceAdd, Nat.reduceMul, Nat.reduceLeDiff, Int.reduceLE, Int.reduceLT, Int.reduceEq, Int.reduceToNat, Int.reduceAdd, Int.reduceSub, Int.reduceMul, Int.reduceNeg, reduceCtorEq, Option.bind_some, Option.map_some, List.length_cons, List.length_nil, vcM, List.getElem?_toArray, List.getElem?_cons_zero, List.getElem?_cons_succ])
      exact hend _ _ w2 rfl h2d hEd (by rw [hmF, if_pos (.inl g1)])
    by_cases g2 : n < m
    · (refine nx_at ?_; simp (disch := first | omega | assumption | rfl | (simp only [vcS] <;> omega) | fail) only [↓vcC, slc3_s, ↓ptV_l, ↓vcA, vcB, ↓vcD, vcE, ↓reduceIte, Nat.reduceEqDiff, Nat.reduceAdd, Nat.reduceMul, Nat.reduceLeDiff, Int.reduceLE, Int.reduceLT, Int.reduceEq, Int.reduceToNat, Int.reduceAdd, Int.reduceSub, Int.reduceMul, Int.reduceNeg, reduceCtorEq, Option.bind_some, Option.map_some, List.length_cons, List.length_nil, vcM, List.getElem?_toArray, List.getElem?_cons_zero, List.getElem?_cons_succ, g1, g2])
      (refine nx_at ?_; simp (disch := first | omega | assumption | rfl | (simp only [vcS] <;> omega) | fail) only [↓vcC, slc3_s, ↓ptV_l, ↓vcA, vcB, ↓vcD, vcE, ↓reduceIte, Nat.reduceEqDiff, Nat.reduceAdd, Nat.reduceMul, Nat.reduceLeDiff, Int.reduceLE, Int.reduceLT, Int.reduceEq, Int.reduceToNat, Int.reduceAdd, Int.reduceSub, Int.reduceMul, Int.reduceNeg, reduceCtorEq, Option.bind_some, Option.map_some, List.length_cons, List.length_nil, vcM, List.getElem?_toArray, List.getElem?_cons_zero, List.getElem?_cons_succ])
      exact hend _ _ w2 rfl h2d hEd (by rw [hmF, if_pos (.inr (.inl g2))])
    by_cases g3 : ((keys.length : Nat) : Int) = n * 34
    · obtain ⟨k, rfl⟩ : ∃ k : Nat, n = k := ⟨n.toNat, by omega⟩
      rw [Int.toNat_natCast] at hmF
      have hkk : keys.length = 34 * k := by omega
      have hu8 : IntKind.u8.wrap m = m := by rw [wrap_u8]; omega
      (refine nx_at ?_; simp (disch := first | omega | assumption | rfl | (simp only [vcS] <;> omega) | fail) only [↓vcC, slc3_s, ↓ptV_l, ↓vcA, vcB, ↓vcD, vcE, ↓reduceIte, Nat.reduceEqDiff, Nat.reduceAdd, Nat.reduceMul, Nat.reduceLeDiff, Int.reduceLE, Int.reduceLT, Int.reduceEq, Int.reduceToNat, Int.reduceAdd, Int.reduceSub, Int.reduceMul, Int.reduceNeg, reduceCtorEq, Option.bind_some, Option.map_some, List.length_cons, List.length_nil, vcM, List.getElem?_toArray, List.getElem?_cons_zero, List.getElem?_cons_succ, g1, g2, g3, hwm])
      (refine nx_at ?_; simp (disch := first | omega | assumption | rfl | (simp only [vcS] <;> omega) | fail) only [↓vcC, slc3_s, ↓ptV_l, ↓vcA, vcB, ↓vcD, vcE, ↓reduceIte, Nat.reduceEqDiff, Nat.reduceAdd, Nat.reduceMul, Nat.reduceLeDiff, Int.reduceLE, Int.reduceLT, Int.reduceEq, Int.reduceToNat, Int.reduceAdd, Int.reduceSub, Int.reduceMul, Int.reduceNeg, reduceCtorEq, Option.bind_some, Option.map_some, List.length_cons, List.length_nil, vcM, List.getElem?_toArray, List.getElem?_cons_zero, List.getElem?_cons_succ])
      have hcs : Value.cells (.slice (some ⟨w2.heap.size, 0, none⟩) 1 1) = #[.slice (some ⟨w2.heap.size, 0, none⟩) 1 1] := rfl
      (refine nx_at ?_; simp (disch := first | omega | assumption | rfl | (simp only [vcS] <;> omega) | fail) only [↓vcC, slc3_s, ↓ptV_l, ↓vcA, vcB, ↓vcD, vcE, ↓reduceIte, Nat.reduceEqDiff, Nat.reduceAdd, Nat.reduceMul, Nat.reduceLeDiff, Int.reduceLE, Int.reduceLT, Int.reduceEq, Int.reduceToNat, Int.reduceAdd, Int.reduceSub, Int.reduceMul, Int.reduceNeg, reduceCtorEq, Option.bind_some, Option.map_some, List.length_cons, List.length_nil, vcM, List.getElem?_toArray, List.getElem?_cons_zero, List.getElem?_cons_succ, hu8, hz1, hcs])
      simp only [List.append_nil]
      have hOm : Own1 (w2.alloc (.cells (bv [m]).toArray 5)) (.slice (some ⟨w2.heap.size, 0, none⟩) 1 1) [m] := own_lit1 (w := w2) (bs := [m]) (by simp; decide)
      have hP0 := PtsAt.lit (m := p2) hOm (fun g hg => by cases hg; exact Nat.le_of_lt hS2) (by rw [size_alloc]; omega)
      rw [size_alloc] at hP0
      have hbv : bv [m] = [.int .u8 m] := rfl
      rw [hbv] at hP0
      clear hOm hbv
      have hE3 : Ext w2 ((w2.alloc (.cells [.int .u8 m].toArray 5)).alloc (.cells [.slice (some ⟨w2.heap.size, 0, none⟩) 1 1].toArray 22)) := ((Keep.refl _ w2).alloc _).alloc _
      have hS3 : ((w2.alloc (.cells [.int .u8 m].toArray 5)).alloc (.cells [.slice (some ⟨w2.heap.size, 0, none⟩) 1 1].toArray 22)).heap.size = w2.heap.size + 1 + 1 := by rw [size_alloc, size_alloc]
      generalize World.alloc (World.alloc w2 _) _ = w3 at hP0 hE3 hS3 ⊢
      generalize (Value.slice (some ⟨w2.heap.size, 0, none⟩) 1 1) = v0 at hP0
      generalize (Value.slice (some ⟨w2.heap.size + 1, 0, none⟩) 1 1) = out0 at hP0 ⊢
      have h6a : (w3.alloc (.cells #[.slice none 0 0] 40)).heap[w2.heap.size + 1 + 1]? = some (.cells #[.slice none 0 0] 40 (0, 0)) := heap_new _ _ _ hS3.symm
      have hE4 : Ext w3 ((w3.alloc (.cells #[.slice none 0 0] 40)).setCell ⟨w2.heap.size + 1 + 1, 0, none⟩ out0) := ((Keep.refl _ w3).alloc _).setCell _ (by intro hh; exfalso; omega)
      refine ⟨wr1_of h6a (by simp), ?_⟩
      have h6 : ((w3.alloc (.cells #[.slice none 0 0] 40)).setCell ⟨w2.heap.size + 1 + 1, 0, none⟩ out0).heap[w2.heap.size + 1 + 1]? = some (.cells #[out0] 40 (0, 0)) := by rw [heap_setCell_eq h6a]; rfl
      have hp6 : p2 < w2.heap.size + 1 + 1 := by omega
      generalize World.setCell _ _ _ = w6 at hE4 h6 ⊢
      generalize w2.heap.size + 1 + 1 = p6 at h6 hp6 ⊢
      have hP := hP0.ext hE4
      have hE6 := (hEd.ext hE3).ext hE4
      have h2z := (hE3.ext hE4).at h2d (fun h => h)
      clear hcs hP0 hE3 hE4 h6a hS3 hS2 h2d hEd
      have hck : (Value.slice qk keys.length ck).cells = #[.slice qk keys.length ck] := rfl
      (refine nx_at ?_; simp (disch := first | omega | assumption | rfl | (simp only [vcS] <;> omega) | fail) only [↓vcC, slc3_s, ↓ptV_l, ↓vcA, vcB, ↓vcD, vcE, ↓reduceIte, Nat.reduceEqDiff, Nat.reduceAdd, Nat.reduceMul, Nat.reduceLeDiff, Int.reduceLE, Int.reduceLT, Int.reduceEq, Int.reduceToNat, Int.reduceAdd, Int.reduceSub, Int.reduceMul, Int.reduceNeg, reduceCtorEq, Option.bind_some, Option.map_some, List.length_cons, List.length_nil, vcM, List.getElem?_toArray, List.getElem?_cons_zero, List.getElem?_cons_succ])
      refine callV_ret (chunk_ok w6 (.slice qk keys.length ck) 34 hck (by decide) (by decide)) ?_
      rintro _ w7 ⟨b1, b2, T1, T2, rfl, hm1, hm2, hE7, hl1, hl2, hl3, hl4⟩
      first | (simp (disch := first | omega | assumption | rfl | (simp only [vcS] <;> omega) | fail) only [↓vcC, slc3_s, ↓ptV_l, ↓vcA, vcB, ↓vcD, vcE, ↓reduceIte, Nat.reduceEqDiff, Nat.reduceAdd, Nat.reduceMul, Nat.reduceLeDiff, Int.reduceLE, Int.reduceLT, Int.reduceEq, Int.reduceToNat, Int.reduceAdd, Int.reduceSub, Int.reduceMul, Int.reduceNeg, reduceCtorEq, Option.bind_some, Option.map_some, List.length_cons, List.length_nil, vcM, List.getElem?_toArray, List.getElem?_cons_zero, List.getElem?_cons_succ]) | skip
      (refine nx_at ?_; simp (disch := first | omega | assumption | rfl | (simp only [vcS] <;> omega) | fail) only [↓vcC, slc3_s, ↓ptV_l, ↓vcA, vcB, ↓vcD, vcE, ↓reduceIte, Nat.reduceEqDiff, Nat.reduceAdd, Nat.reduceMul, Nat.reduceLeDiff, Int.reduceLE, Int.reduceLT, Int.reduceEq, Int.reduceToNat, Int.reduceAdd, Int.reduceSub, Int.reduceMul, Int.reduceNeg, reduceCtorEq, Option.bind_some, Option.map_some, List.length_cons, List.length_nil, vcM, List.getElem?_toArray, List.getElem?_cons_zero, List.getElem?_cons_succ])
      have hE := hE6.ext hE7
      have h2y := hE7.at h2z (fun h => h)
      have h6y := hE7.at h6 (fun h => h)
      have hPy := hP.ext hE7
      have hp6b : p6 < w6.heap.size := (Array.getElem?_eq_some_iff.1 h6).1
      have hp2b : p2 < w6.heap.size := (Array.getElem?_eq_some_iff.1 h2z).1
      have hob : ∀ g, blk out0 g → g ≠ b1 ∧ g ≠ b2 := fun g hg => by
        obtain ⟨c1, e1⟩ := row_type hP.row hg
        have := (Array.getElem?_eq_some_iff.1 e1).1
        omega
      clear hP h6 h2z hE6
      have hst := chunk_stops w7 b1 b2 keys.length ck 34 k qk T1 T2 hm1 hm2 hl1 hl2 hkk (by obtain ⟨q, c', e, h⟩ := hcut.eq; injection e with _ _ e3; subst e3; exact h) (by decide) (by omega) (by decide)
      refine rg_of [b1, b2] (by decide) _ _ _ _ _ _
        (fun (pre : List (Fin k)) W => Ext w W ∧ W.heap[p2]? = some (.cells #[.slice none 0 0] 40 (0, 0)) ∧ w7.heap.size ≤ W.heap.size ∧ ∃ out ts, W.heap[p6]? = some (.cells #[out] 40 (0, 0)) ∧ PtsAt p2 W out ts ∧
          ts.map (·.1) = [m] :: pre.map (fun i => (pieceF keys i.val).drop 1) ∧ (∀ i ∈ pre, (pieceF keys i.val).head? = some 33) ∧ ts.length ≤ pre.length + 1 ∧ (∀ g, blk out g → g ≠ b1 ∧ g ≠ b2))
        (fun key pre W => key = none ∧ Ext w W ∧ W.heap[p2]? = some (.cells #[.slice none 0 0] 40 (0, 0)) ∧ multiF s = none)
        (fun i e1 _ => Vc.look e1 7 = some (chV qk 34 i.val) ∧ Vc.look e1 2 = some (.pointer (some ⟨p2, 0, none⟩)) ∧ Vc.look e1 6 = some (.pointer (some ⟨p6, 0, none⟩)))
        rfl rfl (by intro b hb; simp at hb; omega) hst (fun _ => rfl) ?_ ?_ ⟨hE, h2y, Nat.le_refl _, out0, _, h6y, hPy, rfl, (by intro i hi; cases hi), (by simp), hob⟩ (fun _ _ _ _ _ _ h _ _ => h) ?_ ?_ ?_ ?_
      · rintro pre W W' row ⟨g1, g2, gs, out, ts, g3, g4, g5, g6, g7⟩ hg hr
        exact ⟨g1.trans (keep_grow hg hr) fun i hi hk => by have := hk.1; have := hE.size; omega, at_own hg hr g2, Nat.le_trans gs hg.size, out, ts, at_own hg hr g3, pts_own hg hr g4, g5, g6, g7⟩
      · rintro key pre W W' row ⟨g0, g1, g2, g3⟩ hg hr
        exact ⟨g0, g1.trans (keep_grow hg hr) fun i hi hk => by have := hk.1; have := hE.size; omega, at_own hg hr g2, g3⟩
      · intro l pre i W hI
        show ctV _ _ _ _ _ _ _ _ ((56, chV qk 34 i.val) :: _) _
        simp (disch := first | omega | assumption | rfl | (simp only [vcS] <;> omega) | fail) only [↓vcC, slc3_s, ↓ptV_l, ↓vcA, vcB, ↓vcD, vcE, ↓reduceIte, Nat.reduceEqDiff, Nat.reduceAdd, Nat.reduceMul, Nat.reduceLeDiff, Int.reduceLE, Int.reduceLT, Int.reduceEq, Int.reduceToNat, Int.reduceAdd, Int.reduceSub, Int.reduceMul, Int.reduceNeg, reduceCtorEq, Option.bind_some, Option.map_some, List.length_cons, List.length_nil, vcM, List.getElem?_toArray, List.getElem?_cons_zero, List.getElem?_cons_succ]
        exact ⟨KeepsFrom.refl _ _, fun _ _ => rfl, hI⟩
      · rintro l pre i e1 W hl1 hr ⟨g1, g2, gs, out, ts, g3, g4, g5, g6, g7, g8⟩ ⟨l7, l2, l6⟩ hlt
        have hkn : (k : Int) ≤ 16 := by omega
        have hpl : (pieceF keys i.val).length = 34 := by
          have := i.isLt
          have h1 : 34 * i.val + 34 ≤ 34 * k := by omega
          rw [pieceF, List.length_drop, List.length_take]; omega
        have hRx : Rd W (chV qk 34 i.val) (pieceF keys i.val) := chV_rd (hcut.ext g1) (by decide) (by have := i.isLt; omega)
        have hpb : byt (pieceF keys i.val) := byt_drop (byt_take hbk _) _
        obtain ⟨bx, ox, cx, hxe, hx0⟩ := hRx.at (i := 0) (by omega)
        rw [hxe] at hRx l7
        rw [hpl] at hRx l7
        clear hxe
        rw [Nat.add_zero] at hx0
        have hd1 : (pieceF keys i.val).head? = some (pieceF keys i.val)[0] := by rw [List.head?_eq_getElem?, List.getElem?_eq_getElem]
        have hcx : 34 ≤ cx := by
          obtain ⟨q, c', e, h⟩ := hRx.eq
          injection e with _ _ e3; subst e3; omega
        generalize (pieceF keys i.val)[0] = z at hx0 hd1
        have j1 : (0 : Int) < ((34 : Nat) : Int) := by decide
        have hT0 : (0 : Int).toNat = 0 := rfl
        by_cases hz : z = 33
        · subst hz
          simp (disch := first | omega | assumption | rfl | (simp only [vcS] <;> omega) | fail) only [↓vcC, slc3_s, ↓ptV_l, ↓vcA, vcB, ↓vcD, vcE, ↓reduceIte, Nat.reduceEqDiff, Nat.reduceAdd, Nat.reduceMul, Nat.reduceLeDiff, Int.reduceLE, Int.reduceLT, Int.reduceEq, Int.reduceToNat, Int.reduceAdd, Int.reduceSub, Int.reduceMul, Int.reduceNeg, reduceCtorEq, Option.bind_some, Option.map_some, List.length_cons, List.length_nil, vcM, List.getElem?_toArray, List.getElem?_cons_zero, List.getElem?_cons_succ, l7, j1, hT0, hx0]
          (refine nx_at ?_; simp (disch := first | omega | assumption | rfl | (simp only [vcS] <;> omega) | fail) only [↓vcC, slc3_s, ↓ptV_l, ↓vcA, vcB, ↓vcD, vcE, ↓reduceIte, Nat.reduceEqDiff, Nat.reduceAdd, Nat.reduceMul, Nat.reduceLeDiff, Int.reduceLE, Int.reduceLT, Int.reduceEq, Int.reduceToNat, Int.reduceAdd, Int.reduceSub, Int.reduceMul, Int.reduceNeg, reduceCtorEq, Option.bind_some, Option.map_some, List.length_cons, List.length_nil, vcM, List.getElem?_toArray, List.getElem?_cons_zero, List.getElem?_cons_succ])
          have j2 : 0 ≤ (1 : Int) ∧ (1 : Int) ≤ ((34 : Nat) : Int) := by decide
          have hT1 : (1 : Int).toNat = 1 := rfl
          have hcl := hRx.cut (l := 1) (j := 34) (by decide) (by decide)
          rw [List.take_of_length_le (by omega)] at hcl
          (refine nx_at ?_; simp (disch := first | omega | assumption | rfl | (simp only [vcS] <;> omega) | fail) only [↓vcC, slc3_s, ↓ptV_l, ↓vcA, vcB, ↓vcD, vcE, ↓reduceIte, Nat.reduceEqDiff, Nat.reduceAdd, Nat.reduceMul, Nat.reduceLeDiff, Int.reduceLE, Int.reduceLT, Int.reduceEq, Int.reduceToNat, Int.reduceAdd, Int.reduceSub, Int.reduceMul, Int.reduceNeg, reduceCtorEq, Option.bind_some, Option.map_some, List.length_cons, List.length_nil, vcM, List.getElem?_toArray, List.getElem?_cons_zero, List.getElem?_cons_succ, l6, l7, g3, j2, hT1, Nat.reduceSub])
          refine callV_ret (clone_ok W.drew _ ((pieceF keys i.val).drop 1) (hcl.ext (Keep.refl _ W).drew) (by rw [List.length_drop]; omega)) ?_
          rintro data w9 ⟨o1, o2, o3⟩
          have hE9 : Ext W w9 := (Keep.refl _ W).drew.ext o2
          have q6 := hE9.at g3 (fun h => h)
          have q2 := hE9.at g2 (fun h => h)
          have hP9 := g4.ext hE9
          have hg9 := hE9.size
          have hw9 : w.heap.size ≤ w9.heap.size := Nat.le_trans hE.size (Nat.le_trans gs hg9)
          have o3' : ∀ g, blk data g → W.heap.size ≤ g := o3
          have q6a : ∀ o, (w9.alloc o).heap[p6]? = some (.cells #[out] 40 (0, 0)) := fun o => by rw [heap_old _ _ _ (Nat.ne_of_lt (Array.getElem?_eq_some_iff.1 q6).1)]; exact q6
          have hdc : data.cells = #[data] := by obtain ⟨q, c', rfl, _⟩ := o1.rd.eq; rfl
          simp (disch := first | omega | assumption | rfl | (simp only [vcS] <;> omega) | fail) only [↓vcC, slc3_s, ↓ptV_l, ↓vcA, vcB, ↓vcD, vcE, ↓reduceIte, Nat.reduceEqDiff, Nat.reduceAdd, Nat.reduceMul, Nat.reduceLeDiff, Int.reduceLE, Int.reduceLT, Int.reduceEq, Int.reduceToNat, Int.reduceAdd, Int.reduceSub, Int.reduceMul, Int.reduceNeg, reduceCtorEq, Option.bind_some, Option.map_some, List.length_cons, List.length_nil, vcM, List.getElem?_toArray, List.getElem?_cons_zero, List.getElem?_cons_succ, q6, hdc, q6a]
          refine PtsAt.push hP9 (by omega) (by omega) o1 (fun g hg => by have := o3' g hg; omega) (fun t ht g hg hg2 => ?_) fun out' w10 h1 h2 h3 => ?_
          · have h8 := (g4.own t ht).1.lt hg
            have := o3' g hg2
            omega
          have hnb : ∀ p, w9.heap[p]? = some (.cells #[out] 40 (0, 0)) ∨ w9.heap[p]? = some (.cells #[.slice none 0 0] 40 (0, 0)) → ¬ blk out p := fun p hp hb => by
            obtain ⟨c1, e1⟩ := row_type hP9.row hb
            rcases hp with hp | hp <;> rw [e1] at hp <;> cases hp
          have r6 := h2.at q6 (hnb p6 (.inl q6))
          have r2 := h2.at q2 (hnb p2 (.inr q2))
          first | (simp (disch := first | omega | assumption | rfl | (simp only [vcS] <;> omega) | fail) only [↓vcC, slc3_s, ↓ptV_l, ↓vcA, vcB, ↓vcD, vcE, ↓reduceIte, Nat.reduceEqDiff, Nat.reduceAdd, Nat.reduceMul, Nat.reduceLeDiff, Int.reduceLE, Int.reduceLT, Int.reduceEq, Int.reduceToNat, Int.reduceAdd, Int.reduceSub, Int.reduceMul, Int.reduceNeg, reduceCtorEq, Option.bind_some, Option.map_some, List.length_cons, List.length_nil, vcM, List.getElem?_toArray, List.getElem?_cons_zero, List.getElem?_cons_succ, l6]) | skip
          have hkp : Keep (fun i => i = p6 ∨ blk out i) W (w10.setCell ⟨p6, 0, none⟩ out') := ((hE9.mono (fun _ h => h.elim)).trans h2 (fun i _ h => .inr h)).setCell _ (fun _ => .inl rfl)
          have hst6 : Keep (fun i => i = p6) w10 (w10.setCell ⟨p6, 0, none⟩ out') := (Keep.refl _ w10).setCell _ (fun _ => rfl)
          refine ⟨one_row h1.row, wr1_of r6 (by simp), keepsFrom_of hkp fun i hi o ho => ?_, fun b hb => ?_, g1.trans hkp fun i hi hs => ?_, r2, by have := h2.size; omega, out', _, ?_, h1.keep hst6 fun g c t ht hg _ he => ?_, ?_, ?_, ?_, ?_⟩
          · rcases hi with hi | hi
            · subst hi; rw [g3] at ho; cases ho; rfl
            · obtain ⟨c1, e1⟩ := row_type g4.row hi
              rw [e1] at ho; cases ho; rfl
          · simp only [List.mem_cons, List.not_mem_nil, or_false] at hb
            refine hkp.block b (by omega) fun hs => ?_
            rcases hs with hs | hs
            · omega
            · have := g8 b hs
              omega
          · rcases hs with hs | hs
            · omega
            · have := own_block g4.row hs
              omega
          · rw [heap_setCell_eq r6]; rfl
          · subst he
            rw [r6] at hg
            rcases ht with rfl | rfl <;> cases hg
          · rw [List.map_append, g5, List.map_append]; rfl
          · intro j hj
            rcases List.mem_append.1 hj with hj | hj
            · exact g6 j hj
            · obtain rfl : j = i := by simpa using hj
              exact hd1
          · rw [List.length_append, List.length_append, List.length_cons, List.length_nil, List.length_cons, List.length_nil]; omega
          · intro g hg
            rcases h3 g hg with h | h
            · exact g8 g h
            · omega
        · simp (disch := first | omega | assumption | rfl | (simp only [vcS] <;> omega) | fail) only [↓vcC, slc3_s, ↓ptV_l, ↓vcA, vcB, ↓vcD, vcE, ↓reduceIte, Nat.reduceEqDiff, Nat.reduceAdd, Nat.reduceMul, Nat.reduceLeDiff, Int.reduceLE, Int.reduceLT, Int.reduceEq, Int.reduceToNat, Int.reduceAdd, Int.reduceSub, Int.reduceMul, Int.reduceNeg, reduceCtorEq, Option.bind_some, Option.map_some, List.length_cons, List.length_nil, vcM, List.getElem?_toArray, List.getElem?_cons_zero, List.getElem?_cons_succ, l7, l2, j1, hT0, hx0, hz]
          (refine nx_at ?_; simp (disch := first | omega | assumption | rfl | (simp only [vcS] <;> omega) | fail) only [↓vcC, slc3_s, ↓ptV_l, ↓vcA, vcB, ↓vcD, vcE, ↓reduceIte, Nat.reduceEqDiff, Nat.reduceAdd, Nat.reduceMul, Nat.reduceLeDiff, Int.reduceLE, Int.reduceLT, Int.reduceEq, Int.reduceToNat, Int.reduceAdd, Int.reduceSub, Int.reduceMul, Int.reduceNeg, reduceCtorEq, Option.bind_some, Option.map_some, List.length_cons, List.length_nil, vcM, List.getElem?_toArray, List.getElem?_cons_zero, List.getElem?_cons_succ, l2])
          refine ⟨wr1_of g2 (by simp), ?_⟩
          (refine nx_at ?_; simp (disch := first | omega | assumption | rfl | (simp only [vcS] <;> omega) | fail) only [↓vcC, slc3_s, ↓ptV_l, ↓vcA, vcB, ↓vcD, vcE, ↓reduceIte, Nat.reduceEqDiff, Nat.reduceAdd, Nat.reduceMul, Nat.reduceLeDiff, Int.reduceLE, Int.reduceLT, Int.reduceEq, Int.reduceToNat, Int.reduceAdd, Int.reduceSub, Int.reduceMul, Int.reduceNeg, reduceCtorEq, Option.bind_some, Option.map_some, List.length_cons, List.length_nil, vcM, List.getElem?_toArray, List.getElem?_cons_zero, List.getElem?_cons_succ])
          have hkp : Keep (fun i => i = p2) W (W.setCell ⟨p2, 0, none⟩ (.slice none 0 0)) := (Keep.refl _ W).setCell _ (fun _ => rfl)
          refine ⟨keepsFrom_of hkp fun i hi o ho => ?_, g1.setCell _ (by omega), ?_, ?_⟩
          · subst hi; rw [g2] at ho; cases ho; rfl
          · rw [heap_setCell_eq g2]; rfl
          · rw [hmF]
            refine if_pos (.inr (.inr (.inr ?_)))
            rw [headOK, List.all_eq_false]
            exact ⟨i.val, by simp, by rw [hd1]; simpa using hz⟩
      · rintro D xs W hD rfl ⟨g1, g2, gs, out, ts, g3, g4, g5, g6, g7, g8⟩ hDK
        have hDp : ∀ p c t, W.heap[p]? = some (.cells c t (0, 0)) → p ≠ D := fun p c t hp e => by subst e; rw [hDK] at hp; cases hp
        have hD2 := hDp _ _ _ g2
        (refine nx_at ?_; simp (disch := first | omega | assumption | rfl | (simp only [vcS] <;> omega) | fail) only [↓vcC, slc3_s, ↓ptV_l, ↓vcA, vcB, ↓vcD, vcE, ↓reduceIte, Nat.reduceEqDiff, Nat.reduceAdd, Nat.reduceMul, Nat.reduceLeDiff, Int.reduceLE, Int.reduceLT, Int.reduceEq, Int.reduceToNat, Int.reduceAdd, Int.reduceSub, Int.reduceMul, Int.reduceNeg, reduceCtorEq, Option.bind_some, Option.map_some, List.length_cons, List.length_nil, vcM, List.getElem?_toArray, List.getElem?_cons_zero, List.getElem?_cons_succ, g3])
        refine ⟨one_row g4.row, wr1_of g2 (by simp), ?_⟩
        have s2 : (W.setCell ⟨p2, 0, none⟩ out).heap[p2]? = some (.cells #[out] 40 (0, 0)) := by rw [heap_setCell_eq g2]; rfl
        have sD : (W.setCell ⟨p2, 0, none⟩ out).heap[D]? = some (.deferred (some [])) := (heap_setCell_ne W p2 D 0 none out (fun e => hD2 e.symm)).trans hDK
        have hkp : Keep (fun i => i = p2) W (W.setCell ⟨p2, 0, none⟩ out) := (Keep.refl _ W).setCell _ (fun _ => rfl)
        have hkf : Keep (fun i => i = p2 ∨ i = D) W ((W.setCell ⟨p2, 0, none⟩ out).putObj D (.deferred none)) := (hkp.mono (fun _ h => .inl h)).grown (grownBy_putObj' _ D _) (fun i _ h => by cases h; exact .inr rfl)
        have s2' : ((W.setCell ⟨p2, 0, none⟩ out).putObj D (.deferred none)).heap[p2]? = some (.cells #[out] 40 (0, 0)) := by rw [World.putObj_heap_other hD2]; exact s2
        (refine nx_at ?_; simp (disch := first | omega | assumption | rfl | (simp only [vcS] <;> omega) | fail) only [↓vcC, slc3_s, ↓ptV_l, ↓vcA, vcB, ↓vcD, vcE, ↓reduceIte, Nat.reduceEqDiff, Nat.reduceAdd, Nat.reduceMul, Nat.reduceLeDiff, Int.reduceLE, Int.reduceLT, Int.reduceEq, Int.reduceToNat, Int.reduceAdd, Int.reduceSub, Int.reduceMul, Int.reduceNeg, reduceCtorEq, Option.bind_some, Option.map_some, List.length_cons, List.length_nil, vcM, List.getElem?_toArray, List.getElem?_cons_zero, List.getElem?_cons_succ])
        refine lvV_cons sD ?_
        simp (disch := first | omega | assumption | rfl | (simp only [vcS] <;> omega) | fail) only [↓vcC, slc3_s, ↓ptV_l, ↓vcA, vcB, ↓vcD, vcE, ↓reduceIte, Nat.reduceEqDiff, Nat.reduceAdd, Nat.reduceMul, Nat.reduceLeDiff, Int.reduceLE, Int.reduceLT, Int.reduceEq, Int.reduceToNat, Int.reduceAdd, Int.reduceSub, Int.reduceMul, Int.reduceNeg, reduceCtorEq, Option.bind_some, Option.map_some, List.length_cons, List.length_nil, vcM, List.getElem?_toArray, List.getElem?_cons_zero, List.getElem?_cons_succ, s2', Ret_returned]
        refine ⟨g1.trans hkf fun i hi hs => by rcases hs with hs | hs <;> omega, ?_⟩
        have hho : headOK keys k = true := by
          rw [headOK, List.all_eq_true]
          intro j hj
          have hj' : j < k := by simpa using hj
          have := g6 ⟨j, hj'⟩ (by simp)
          simpa using this
        rw [hmF, if_neg (by rw [hho]; simp; omega)]
        refine ⟨ts, ?_, ?_⟩
        · rw [g5, fin_map k fun j => (pieceF keys j).drop 1]
        · rw [hp2]
          refine g4.keep hkf fun g c t ht hg _ hs => ?_
          rcases hs with rfl | rfl
          · rw [g2] at hg
            rcases ht with rfl | rfl <;> cases hg
          · rw [hDK] at hg; cases hg
      · rintro D key pre W hD _ ⟨rfl, g1, g2, g3⟩ hDK
        have hD2 : p2 ≠ D := fun e => by subst e; rw [hDK] at g2; cases g2
        simp (disch := first | omega | assumption | rfl | (simp only [vcS] <;> omega) | fail) only [↓vcC, slc3_s, ↓ptV_l, ↓vcA, vcB, ↓vcD, vcE, ↓reduceIte, Nat.reduceEqDiff, Nat.reduceAdd, Nat.reduceMul, Nat.reduceLeDiff, Int.reduceLE, Int.reduceLT, Int.reduceEq, Int.reduceToNat, Int.reduceAdd, Int.reduceSub, Int.reduceMul, Int.reduceNeg, reduceCtorEq, Option.bind_some, Option.map_some, List.length_cons, List.length_nil, vcM, List.getElem?_toArray, List.getElem?_cons_zero, List.getElem?_cons_succ]
        refine lvV_cons hDK ?_
        have s2 : (W.putObj D (.deferred none)).heap[p2]? = some (.cells #[.slice none 0 0] 40 (0, 0)) := by rw [World.putObj_heap_other hD2]; exact g2
        simp (disch := first | omega | assumption | rfl | (simp only [vcS] <;> omega) | fail) only [↓vcC, slc3_s, ↓ptV_l, ↓vcA, vcB, ↓vcD, vcE, ↓reduceIte, Nat.reduceEqDiff, Nat.reduceAdd, Nat.reduceMul, Nat.reduceLeDiff, Int.reduceLE, Int.reduceLT, Int.reduceEq, Int.reduceToNat, Int.reduceAdd, Int.reduceSub, Int.reduceMul, Int.reduceNeg, reduceCtorEq, Option.bind_some, Option.map_some, List.length_cons, List.length_nil, vcM, List.getElem?_toArray, List.getElem?_cons_zero, List.getElem?_cons_succ, s2, Ret_returned]
        refine ⟨g1.grown (grownBy_putObj' W D _) (fun i hi h => by cases h; omega), ?_⟩
        rw [g3]
    · (refine nx_at ?_; simp (disch := first | omega | assumption | rfl | (simp only [vcS] <;> omega) | fail) only [↓vcC, slc3_s, ↓ptV_l, ↓vcA, vcB, ↓vcD, vcE, ↓reduceIte, Nat.reduceEqDiff, Nat.reduceAdd, Nat.reduceMul, Nat.reduceLeDiff, Int.reduceLE, Int.reduceLT, Int.reduceEq, Int.reduceToNat, Int.reduceAdd, Int.reduceSub, Int.reduceMul, Int.reduceNeg, reduceCtorEq, Option.bind_some, Option.map_some, List.length_cons, List.length_nil, vcM, List.getElem?_toArray, List.getElem?_cons_zero, List.getElem?_cons_succ, g1, g2, g3, hwm])
      (refine nx_at ?_; simp (disch := first | omega | assumption | rfl | (simp only [vcS] <;> omega) | fail) only [↓vcC, slc3_s, ↓ptV_l, ↓vcA, vcB, ↓vcD, vcE, ↓reduceIte, Nat.reduceEqDiff, Nat.reduceAdd, Nat.reduceMul, Nat.reduceLeDiff, Int.reduceLE, Int.reduceLT, Int.reduceEq, Int.reduceToNat, Int.reduceAdd, Int.reduceSub, Int.reduceMul, Int.reduceNeg, reduceCtorEq, Option.bind_some, Option.map_some, List.length_cons, List.length_nil, vcM, List.getElem?_toArray, List.getElem?_cons_zero, List.getElem?_cons_succ])
      exact hend _ _ w2 rfl h2d hEd (by rw [hmF, if_pos (.inr (.inr (.inl (by omega))))])
  · (refine nx_at ?_; simp (disch := first | omega | assumption | rfl | (simp only [vcS] <;> omega) | fail) only [↓vcC, slc3_s, ↓ptV_l, ↓vcA, vcB, ↓vcD, vcE, ↓reduceIte, Nat.reduceEqDiff, Nat.reduceAdd, Nat.reduceMul, Nat.reduceLeDiff, Int.reduceLE, Int.reduceLT, Int.reduceEq, Int.reduceToNat, Int.reduceAdd, Int.reduceSub, Int.reduceMul, Int.reduceNeg, reduceCtorEq, Option.bind_some, Option.map_some, List.length_cons, List.length_nil, vcM, List.getElem?_toArray, List.getElem?_cons_zero, List.getElem?_cons_succ, h3, hws, hi2, Int.toNat_natCast, Nat.mul_one, hcell, hlast])
    (refine nx_at ?_; simp (disch := first | omega | assumption | rfl | (simp only [vcS] <;> omega) | fail) only [↓vcC, slc3_s, ↓ptV_l, ↓vcA, vcB, ↓vcD, vcE, ↓reduceIte, Nat.reduceEqDiff, Nat.reduceAdd, Nat.reduceMul, Nat.reduceLeDiff, Int.reduceLE, Int.reduceLT, Int.reduceEq, Int.reduceToNat, Int.reduceAdd, Int.reduceSub, Int.reduceMul, Int.reduceNeg, reduceCtorEq, Option.bind_some, Option.map_some, List.length_cons, List.length_nil, vcM, List.getElem?_toArray, List.getElem?_cons_zero, List.getElem?_cons_succ])
    refine hend _ _ w1 rfl h2 hE (by rw [multiF, if_pos (.inr ?_)])
    rw [List.getLast?_eq_getElem?, List.getElem?_eq_getElem hil]
    simpa using hlast
end Go.Proofs
