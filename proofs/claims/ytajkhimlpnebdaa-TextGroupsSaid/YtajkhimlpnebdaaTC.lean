/- A number's digits in base 58, of its digits in base 256. -/
import Derived.Test.YtajkhimlpnebdaaTB
set_option linter.unusedSimpArgs false
set_option linter.unusedVariables false
set_option linter.constructorNameAsVariable false
namespace Go.Proofs
open Go.Vc Go.RowKit
set_option maxRecDepth 10000

theorem keepsFrom_of {S : Nat → Prop} {B : Nat} {w w' : World} (h : Keep S w w') (hS : ∀ k, S k → ∀ o, w.heap[k]? = some o → o.isCells = true) : KeepsFrom B w w' := by
  refine ⟨h.size, fun k o _ hk ho => ?_⟩
  have hs : ¬ S k := fun hs => by rw [hS k hs o hk] at ho; cases ho
  exact (h.block k (Array.getElem?_eq_some_iff.1 hk).1 hs).trans hk
theorem Keep.below {S : Nat → Prop} {B : Nat} {w w' : World} (h : Keep S w w') (hS : ∀ k, S k → B ≤ k) (hB : B ≤ w.heap.size) : Below B w w' := below_ext (h.mono hS) hB
theorem at_own {B : Nat} {w w' : World} {row : Option Nat} {p : Nat} {c : Array Value} {t : TypeId} {fr : Nat × Nat} (hg : w.grownBy w' row) (hr : ∀ r, row = some r → B ≤ r ∧ ∃ o : Obj, w.heap[r]? = some o ∧ o.isCells = false)
    (h : w.heap[p]? = some (.cells c t fr)) : w'.heap[p]? = some (.cells c t fr) :=
  (keep_grow hg hr).at h fun hn => by obtain ⟨_, o, ho, hc⟩ := hn; rw [h] at ho; cases ho; cases hc
theorem setPs_1 (p : Nat) (v : Value) (e : Env) : setPs [p] [v] e = (p, v) :: e := rfl
theorem setPs_2 (p q : Nat) (v u : Value) (e : Env) : setPs [p, q] [v, u] e = (q, u) :: (p, v) :: e := rfl

/-- What one digit more makes of the digits so far: the old places, and what is carried on. -/
def carryF : List Int → Int → List Int × Int
  | [], c => ([], c)
  | x :: o, c => ((c + x * 256) % 58 :: (carryF o ((c + x * 256) / 58)).1, (carryF o ((c + x * 256) / 58)).2)
def digF : Nat → Int → List Int
  | 0, _ => []
  | k + 1, c => if 0 < c then c % 58 :: digF k (c / 58) else []
def mulF (o : List Int) (d : Int) : List Int := (carryF o d).1 ++ digF 256 (carryF o d).2
def D58 (o : List Int) : Prop := ∀ x ∈ o, 0 ≤ x ∧ x ≤ 57
theorem carryF_ok : ∀ {o : List Int} {c : Int}, D58 o → 0 ≤ c ∧ c ≤ 255 → D58 (carryF o c).1 ∧ (0 ≤ (carryF o c).2 ∧ (carryF o c).2 ≤ 255) ∧ (carryF o c).1.length = o.length
  | [], c, _, hc => ⟨fun x h => (by cases h), hc, rfl⟩
  | x :: o, c, ho, hc => by
    have hx := ho x (by simp)
    have ih := carryF_ok (o := o) (c := (c + x * 256) / 58) (fun y hy => ho y (List.mem_cons_of_mem _ hy)) (by omega)
    refine ⟨fun y hy => ?_, ih.2.1, by simp [carryF, ih.2.2]⟩
    rcases List.mem_cons.1 hy with rfl | hy
    · omega
    · exact ih.1 y hy
theorem digF_ok : ∀ (k : Nat) {c : Int}, 0 ≤ c → D58 (digF k c)
  | 0, _, _ => fun x h => (by cases h)
  | k + 1, c, hc => by
    intro x hx
    simp only [digF] at hx
    split at hx
    · rcases List.mem_cons.1 hx with rfl | hx
      · omega
      · exact digF_ok k (c := c / 58) (by omega) x hx
    · cases hx
theorem digF_len : ∀ (k : Nat) {c : Int}, 0 ≤ c ∧ c ≤ 255 → (digF k c).length ≤ 2
  | 0, _, _ => by simp [digF]
  | 1, _, _ => by simp only [digF]; split <;> simp
  | k + 2, c, hc => by
    simp only [digF]
    split
    · split
      · cases k with
        | zero => simp [digF]
        | succ k =>
          simp only [digF]
          rw [if_neg (by omega)]
          simp
      · simp
    · simp
theorem mulF_ok {o : List Int} {d : Int} (ho : D58 o) (hd : 0 ≤ d ∧ d ≤ 255) : D58 (mulF o d) ∧ (mulF o d).length ≤ o.length + 2 := by
  obtain ⟨h1, h2, h3⟩ := carryF_ok ho hd
  refine ⟨fun x hx => ?_, ?_⟩
  · rcases List.mem_append.1 hx with hx | hx
    · exact h1 x hx
    · exact digF_ok 256 h2.1 x hx
  · have := digF_len 256 h2
    simp only [mulF, List.length_append]; omega
def baseF (ds : List Int) : List Int := ds.foldl mulF []
theorem baseF_ok : ∀ (ds : List Int) {o : List Int}, D58 o → byt ds → D58 (ds.foldl mulF o) ∧ (ds.foldl mulF o).length ≤ o.length + 2 * ds.length
  | [], o, ho, _ => ⟨ho, by simp⟩
  | d :: ds, o, ho, hb => by
    obtain ⟨h1, h2⟩ := mulF_ok ho (hb d (by simp))
    obtain ⟨h3, h4⟩ := baseF_ok ds h1 fun x hx => hb x (List.mem_cons_of_mem _ hx)
    exact ⟨h3, by simp only [List.foldl_cons, List.length_cons]; omega⟩
theorem D58.byt {o : List Int} (h : D58 o) : Go.Proofs.byt o := fun x hx => by have := h x hx; omega

/-- What the box of the digits holds. -/
structure OutAt (w0 w : World) (p4 p5 p7 : Nat) (o : List Int) : Prop where
  ext : Ext w0 w
  b4 : w.heap[p4]? = some (.cells #[.int .i64 256] 3 (0, 0))
  b5 : w.heap[p5]? = some (.cells #[.int .i64 58] 3 (0, 0))
  l7 : w0.heap.size ≤ p7
  b7 : ∃ v, w.heap[p7]? = some (.cells #[v] 28 (0, 0)) ∧ Own1 w v o ∧ ∀ g, blk v g → w0.heap.size ≤ g
set_option maxHeartbeats 3200000 in
theorem base_ok (w : World) (v : Value) (ids : List Int) (h : Own1 w v ids) (hb : byt ids) (hl : ids.length ≤ 1000) :
    Calls Try.prog 34 #[v, .int .i64 256, .int .i64 58] w (Ret fun u w' => New w w' u (baseF ids.reverse)) := by
  refine calls_of_ct 3 t34_ok (Nat.le_of_ble_eq_true rfl) ?_
  simp only [argE_nil, argE_cons, Nat.reduceAdd, Nat.zero_add]
  simp (disch := first | omega | assumption | rfl | (simp only [vcS] <;> omega) | fail) only [t34, ↓vcC, slc3_s, ↓ptV_l, ↓vcA, vcB, ↓vcD, vcE, ↓reduceIte, Nat.reduceEqDiff, Nat.reduceAdd, Nat.reduceMul, Nat.reduceLeDiff, Int.reduceLE, Int.reduceLT, Int.reduceEq, Int.reduceToNat, Int.reduceAdd, Int.reduceSub, Int.reduceMul, Int.reduceNeg, reduceCtorEq, Option.bind_some, Option.map_some, List.length_cons, List.length_nil, vcM, List.getElem?_toArray, List.getElem?_cons_zero, List.getElem?_cons_succ]
  have hq4 : ((w.alloc (.cells #[.int .i64 256] 3)).alloc (.cells #[.int .i64 58] 3)).heap[w.heap.size]? = some (.cells #[.int .i64 256] 3 (0, 0)) := by
    rw [heap_old _ _ _ (by rw [size_alloc]; omega)]; exact heap_new _ _ _ rfl
  have hq5 : ((w.alloc (.cells #[.int .i64 256] 3)).alloc (.cells #[.int .i64 58] 3)).heap[w.heap.size + 1]? = some (.cells #[.int .i64 58] 3 (0, 0)) := heap_new _ _ _ (by rw [size_alloc])
  have hE1 : Ext w ((w.alloc (.cells #[.int .i64 256] 3)).alloc (.cells #[.int .i64 58] 3)) := by (repeat' first | exact Keep.refl _ _ | assumption | refine Keep.drew ?_ | refine Keep.alloc ?_ _ | refine Keep.putN ?_ _ ?_ | refine Keep.setCell ?_ _ ?_ | refine Keep.setO ?_ _ ?_ | exact fun _ => Or.inl rfl | exact fun _ => Or.inr rfl | exact fun _ => rfl | (intro hh; exfalso; ((try simp only [vcS] at hh) <;> omega)))
  generalize hp4e : w.heap.size = p4 at hq4 hq5 ⊢
  generalize hp5e : p4 + 1 = p5 at hq5 ⊢
  generalize World.alloc (World.alloc _ _) _ = w1 at hq4 hq5 hE1 ⊢
  (refine nx_at ?_; simp (disch := first | omega | assumption | rfl | (simp only [vcS] <;> omega) | fail) only [↓vcC, slc3_s, ↓ptV_l, ↓vcA, vcB, ↓vcD, vcE, ↓reduceIte, Nat.reduceEqDiff, Nat.reduceAdd, Nat.reduceMul, Nat.reduceLeDiff, Int.reduceLE, Int.reduceLT, Int.reduceEq, Int.reduceToNat, Int.reduceAdd, Int.reduceSub, Int.reduceMul, Int.reduceNeg, reduceCtorEq, Option.bind_some, Option.map_some, List.length_cons, List.length_nil, vcM, List.getElem?_toArray, List.getElem?_cons_zero, List.getElem?_cons_succ])
  have hz : zc [(1, Value.slice none 0 0)] = #[.slice none 0 0] := rfl
  rw [hz]
  have hO : OutAt w (w1.alloc (.cells #[.slice none 0 0] 28)) p4 p5 w1.heap.size [] := by
    have hE2 : Ext w1 (w1.alloc (.cells #[.slice none 0 0] 28)) := (Keep.refl _ w1).alloc _
    exact ⟨hE1.ext hE2, hE2.at hq4 fun h => h, hE2.at hq5 fun h => h, hE1.size, _, heap_new _ _ _ rfl, Own1.nil _, fun g hg => (by cases hg)⟩
  have hp7l : w1.heap.size < (w1.alloc (.cells #[.slice none 0 0] 28)).heap.size := by rw [size_alloc]; omega
  generalize w1.heap.size = p7 at hO hp7l ⊢
  generalize World.alloc _ _ = w2 at hO hp7l ⊢
  clear hz hq4 hq5 hE1
  (refine nx_at ?_; simp (disch := first | omega | assumption | rfl | (simp only [vcS] <;> omega) | fail) only [↓vcC, slc3_s, ↓ptV_l, ↓vcA, vcB, ↓vcD, vcE, ↓reduceIte, Nat.reduceEqDiff, Nat.reduceAdd, Nat.reduceMul, Nat.reduceLeDiff, Int.reduceLE, Int.reduceLT, Int.reduceEq, Int.reduceToNat, Int.reduceAdd, Int.reduceSub, Int.reduceMul, Int.reduceNeg, reduceCtorEq, Option.bind_some, Option.map_some, List.length_cons, List.length_nil, vcM, List.getElem?_toArray, List.getElem?_cons_zero, List.getElem?_cons_succ])
  obtain ⟨qv, hqv⟩ : ∃ qq qn qc, v = .slice qq qn qc := by
    rcases h.2 with ⟨rfl, _⟩ | ⟨g, cap, cur, rfl, _⟩
    · exact ⟨_, _, _, rfl⟩
    · exact ⟨_, _, _, rfl⟩
  obtain ⟨qn, qc, hqe⟩ := hqv
  have hcell : v.cells = #[v] := by rw [hqe]; rfl
  refine callV_ret (back_ok w2 v hcell) ?_
  rintro _ w3 ⟨b1, T1, rfl, hm1, hE3, hl1, hl3, hT1⟩
  first | (simp (disch := first | omega | assumption | rfl | (simp only [vcS] <;> omega) | fail) only [↓vcC, slc3_s, ↓ptV_l, ↓vcA, vcB, ↓vcD, vcE, ↓reduceIte, Nat.reduceEqDiff, Nat.reduceAdd, Nat.reduceMul, Nat.reduceLeDiff, Int.reduceLE, Int.reduceLT, Int.reduceEq, Int.reduceToNat, Int.reduceAdd, Int.reduceSub, Int.reduceMul, Int.reduceNeg, reduceCtorEq, Option.bind_some, Option.map_some, List.length_cons, List.length_nil, vcM, List.getElem?_toArray, List.getElem?_cons_zero, List.getElem?_cons_succ]) | skip
  (refine nx_at ?_; simp (disch := first | omega | assumption | rfl | (simp only [vcS] <;> omega) | fail) only [↓vcC, slc3_s, ↓ptV_l, ↓vcA, vcB, ↓vcD, vcE, ↓reduceIte, Nat.reduceEqDiff, Nat.reduceAdd, Nat.reduceMul, Nat.reduceLeDiff, Int.reduceLE, Int.reduceLT, Int.reduceEq, Int.reduceToNat, Int.reduceAdd, Int.reduceSub, Int.reduceMul, Int.reduceNeg, reduceCtorEq, Option.bind_some, Option.map_some, List.length_cons, List.length_nil, vcM, List.getElem?_toArray, List.getElem?_cons_zero, List.getElem?_cons_succ])
  have hO3 : OutAt w w3 p4 p5 p7 [] := by
    obtain ⟨o1, o2, o3, o4, v7, o5, o6, o7⟩ := hO
    exact ⟨o1.ext hE3, hE3.at o2 fun h => h, hE3.at o3 fun h => h, o4, v7, hE3.at o5 fun h => h, o6.ext hE3, o7⟩
  have hst := back_stops w3 b1 v ids T1 hm1 (h.ext hO3.ext) (by omega)
  have hbs : ∀ b ∈ b1 :: v.ownBlock.toList, b < w3.heap.size := by
    intro b hb
    rcases List.mem_cons.1 hb with rfl | hb
    · exact hl1
    · have hbq : blk v b := by
        unfold Go.Proofs.blk
        cases ho : v.ownBlock with
        | none => rw [ho] at hb; cases hb
        | some g => rw [ho] at hb; simp at hb; rw [hb]
      exact Nat.lt_of_lt_of_le (h.lt hbq) hO3.ext.size
  have hvals : ∀ (pre : List (Fin ids.length)), byt (pre.map fun t => ids[t.val]) := fun pre x hx => by
    obtain ⟨t, _, rfl⟩ := List.mem_map.1 hx
    exact hb _ (List.getElem_mem _)
  refine rg_of (b1 :: v.ownBlock.toList) (by decide) _ _ _ _ _ _
    (fun (pre : List (Fin ids.length)) W => OutAt w W p4 p5 p7 (baseF (pre.map fun t => ids[t.val])) ∧ W.heap[b1]? = some (.cells #[v] T1 (0, 0)) ∧ w3.heap.size ≤ W.heap.size)
    (fun _ _ _ => False)
    (fun t e1 W => Vc.look e1 4 = some (.pointer (some ⟨p4, 0, none⟩)) ∧ Vc.look e1 5 = some (.pointer (some ⟨p5, 0, none⟩)) ∧ Vc.look e1 7 = some (.pointer (some ⟨p7, 0, none⟩)) ∧ Vc.look e1 9 = some (.int .u8 ids[t.val]))
    rfl rfl hbs hst (fun _ => rfl) ?_ ?_ ⟨hO3, hm1, Nat.le_refl _⟩ ?_ ?_ ?_ ?_ ?_
  · rintro pre W W' row ⟨⟨o1, o2, o3, o4, v7, o5, o6, o7⟩, m1, gs⟩ hg hr
    refine ⟨⟨o1.trans (keep_grow hg hr) fun i hi hk => by have := hk.1; have := hO3.ext.size; omega, at_own hg hr o2, at_own hg hr o3, o4, v7, at_own hg hr o5, ?_, o7⟩, at_own hg hr m1, Nat.le_trans gs hg.size⟩
    refine o6.keep (keep_grow hg hr) fun g hgb hk => ?_
    obtain ⟨_, o, ho, hc⟩ := hk
    obtain ⟨cur, hcur⟩ := row_type o6 hgb
    rw [hcur] at ho; cases ho; cases hc
  · rintro key pre W W' row hF hg hr; exact hF
  · rintro t e1 _ W W' row hA hg hr; exact hA
  · rintro l pre t W hI
    show ctV _ _ _ _ _ _ _ _ ((16, .int .u8 _) :: (15, .int .i64 _) :: _) _
    simp (disch := first | omega | assumption | rfl | (simp only [vcS] <;> omega) | fail) only [↓vcC, slc3_s, ↓ptV_l, ↓vcA, vcB, ↓vcD, vcE, ↓reduceIte, Nat.reduceEqDiff, Nat.reduceAdd, Nat.reduceMul, Nat.reduceLeDiff, Int.reduceLE, Int.reduceLT, Int.reduceEq, Int.reduceToNat, Int.reduceAdd, Int.reduceSub, Int.reduceMul, Int.reduceNeg, reduceCtorEq, Option.bind_some, Option.map_some, List.length_cons, List.length_nil, vcM, List.getElem?_toArray, List.getElem?_cons_zero, List.getElem?_cons_succ]
    exact ⟨KeepsFrom.refl _ _, fun _ _ => rfl, hI⟩
  · rintro l pre t e1 W hl hr ⟨⟨o1, o2, o3, o4, v7, o5, o6, o7⟩, m1, gs⟩ ⟨l4, l5, l7, l9⟩ hlt
    have hd := hb ids[t.val] (List.getElem_mem _)
    have hB0 := baseF_ok (pre.map fun (t : Fin ids.length) => ids[t.val]) (o := []) (fun x hx => (by cases hx)) (hvals pre)
    obtain ⟨hD0, hL0⟩ := hB0
    have hLen : (baseF (pre.map fun t => ids[t.val])).length ≤ 4000 := by
      have : (baseF (pre.map fun t => ids[t.val])).length ≤ [].length + 2 * (pre.map fun t => ids[t.val]).length := hL0
      simp at this
      omega
    have hD0 : D58 (baseF (pre.map fun t => ids[t.val])) := hD0
    have hnext : baseF ((pre ++ [t]).map fun t => ids[t.val]) = mulF (baseF (pre.map fun t => ids[t.val])) ids[t.val] := by simp [baseF]
    rw [hnext]
    clear hnext hL0
    generalize baseF (pre.map fun t => ids[t.val]) = o0 at *
    generalize ids[t.val] = d at *
    have hwd : IntKind.i64.wrap d = d := wrap_i64 (by omega) (by omega)
    have hlen7 := o6.rd.len
    have one7 : v7.oneCell' = true := o6.rd.one
    have n4 : ¬ WS p7 v7 p4 := by
      rintro (e | e)
      · subst e; rw [o2] at o5; cases o5
      · obtain ⟨cur, hc⟩ := row_type o6 e; rw [o2] at hc; cases hc
    have n5 : ¬ WS p7 v7 p5 := by
      rintro (e | e)
      · subst e; rw [o3] at o5; cases o5
      · obtain ⟨cur, hc⟩ := row_type o6 e; rw [o3] at hc; cases hc
    have n1 : ¬ WS p7 v7 b1 := by
      rintro (e | e)
      · omega
      · obtain ⟨cur, hc⟩ := row_type o6 e; rw [m1] at hc; rw [hT1] at hc; cases hc
    have n7 : ¬ blk v7 p7 := fun e => by obtain ⟨cur, hc⟩ := row_type o6 e; rw [o5] at hc; cases hc
    have nv : ∀ g, blk v g → ¬ WS p7 v7 g := fun g hg => by
      have := h.lt hg
      rintro (e | e)
      · omega
      · have := o7 g e; omega
    have hcells : ∀ k, WS p7 v7 k → ∀ o, W.heap[k]? = some o → o.isCells = true := by
      rintro k (e | e) o ho
      · subst e; rw [o5] at ho; cases ho; rfl
      · obtain ⟨cur, hc⟩ := row_type o6 e; rw [hc] at ho; cases ho; rfl
    have fin : ∀ (W' : World) (v' : Value) (o' : List Int), Keep (WS p7 v7) W W' → W'.heap[p7]? = some (.cells #[v'] 28 (0, 0)) → Own1 W' v' o' → (∀ g, blk v' g → blk v7 g ∨ W.heap.size ≤ g) →
        KeepsFrom w3.heap.size W W' ∧ KpB (b1 :: v.ownBlock.toList) W W' ∧ (OutAt w W' p4 p5 p7 o' ∧ W'.heap[b1]? = some (.cells #[v] T1 (0, 0)) ∧ w3.heap.size ≤ W'.heap.size) := by
      intro W' v' o' k1 k2 k3 k4
      refine ⟨keepsFrom_of k1 hcells, fun b hbm => ?_, ⟨o1.trans k1 fun i hi e => ?_, k1.at o2 n4, k1.at o3 n5, o4, v', k2, k3, fun g hg => ?_⟩, k1.at m1 n1, Nat.le_trans gs k1.size⟩
      · refine k1.block b (Nat.lt_of_lt_of_le (hbs b hbm) gs) ?_
        rcases List.mem_cons.1 hbm with rfl | hbm
        · exact n1
        · refine nv b ?_
          unfold Go.Proofs.blk
          cases ho : v.ownBlock with
          | none => rw [ho] at hbm; cases hbm
          | some g => rw [ho] at hbm; simp at hbm; rw [hbm]
      · rcases e with e | e
        · omega
        · have := o7 i e; omega
      · rcases k4 g hg with e | e
        · exact o7 g e
        · exact Nat.le_trans o1.size e
    simp (disch := first | omega | assumption | rfl | (simp only [vcS] <;> omega) | fail) only [↓vcC, slc3_s, ↓ptV_l, ↓vcA, vcB, ↓vcD, vcE, ↓reduceIte, Nat.reduceEqDiff, Nat.reduceAdd, Nat.reduceMul, Nat.reduceLeDiff, Int.reduceLE, Int.reduceLT, Int.reduceEq, Int.reduceToNat, Int.reduceAdd, Int.reduceSub, Int.reduceMul, Int.reduceNeg, reduceCtorEq, Option.bind_some, Option.map_some, List.length_cons, List.length_nil, vcM, List.getElem?_toArray, List.getElem?_cons_zero, List.getElem?_cons_succ, l9, hwd]
    (refine nx_at ?_; simp (disch := first | omega | assumption | rfl | (simp only [vcS] <;> omega) | fail) only [↓vcC, slc3_s, ↓ptV_l, ↓vcA, vcB, ↓vcD, vcE, ↓reduceIte, Nat.reduceEqDiff, Nat.reduceAdd, Nat.reduceMul, Nat.reduceLeDiff, Int.reduceLE, Int.reduceLT, Int.reduceEq, Int.reduceToNat, Int.reduceAdd, Int.reduceSub, Int.reduceMul, Int.reduceNeg, reduceCtorEq, Option.bind_some, Option.map_some, List.length_cons, List.length_nil, vcM, List.getElem?_toArray, List.getElem?_cons_zero, List.getElem?_cons_succ, l7, o5, hlen7])
    (refine nx_at ?_; simp (disch := first | omega | assumption | rfl | (simp only [vcS] <;> omega) | fail) only [↓vcC, slc3_s, ↓ptV_l, ↓vcA, vcB, ↓vcD, vcE, ↓reduceIte, Nat.reduceEqDiff, Nat.reduceAdd, Nat.reduceMul, Nat.reduceLeDiff, Int.reduceLE, Int.reduceLT, Int.reduceEq, Int.reduceToNat, Int.reduceAdd, Int.reduceSub, Int.reduceMul, Int.reduceNeg, reduceCtorEq, Option.bind_some, Option.map_some, List.length_cons, List.length_nil, vcM, List.getElem?_toArray, List.getElem?_cons_zero, List.getElem?_cons_succ])
    refine lp_of (fun j ds e W' => ds = [] ∧ ∃ done rest c, done.length + j = o0.length ∧ rest.length = j ∧ Vc.look e 21 = some (.int .i64 (done.length : Nat)) ∧ Vc.look e 20 = some (.int .i64 (o0.length : Nat)) ∧ Vc.look e 19 = some v7 ∧ Vc.look e 10 = some (.int .i64 c) ∧
      Vc.look e 4 = some (.pointer (some ⟨p4, 0, none⟩)) ∧ Vc.look e 5 = some (.pointer (some ⟨p5, 0, none⟩)) ∧ Vc.look e 7 = some (.pointer (some ⟨p7, 0, none⟩)) ∧ (0 ≤ c ∧ c ≤ 255) ∧ D58 rest ∧ carryF o0 d = (done ++ (carryF rest c).1, (carryF rest c).2) ∧
      Keep (WS p7 v7) W W' ∧ W'.heap[p7]? = some (.cells #[v7] 28 (0, 0)) ∧ Own1 W' v7 (done ++ rest)) o0.length ?_ ?_
    · exact ⟨rfl, [], o0, d, by simp, rfl, rfl, rfl, rfl, rfl, l4, l5, l7, hd, hD0, by simp, Keep.refl _ W, o5, o6⟩
    rintro j ds e W1 ⟨rfl, done, rest, c, hj, hrl, l21, l20, l19, l10, l4, l5, l7, hc, hrd, hcar, k1, k2, k3⟩
    by_cases hjl : done.length < o0.length
    · have hjl' : ((done.length : Nat) : Int) < ((o0.length : Nat) : Int) := by omega
      obtain ⟨x, rest2, rfl⟩ : ∃ x r, rest = x :: r := by
        cases rest with
        | nil => simp at hrl; omega
        | cons x r => exact ⟨x, r, rfl⟩
      have hx := hrd x (by simp)
      have hel : (done ++ x :: rest2).length = o0.length := by simp at hrl ⊢; omega
      obtain ⟨b, o, cap, hv7, hcl⟩ := k3.rd.at (i := done.length) (by simp)
      rw [hel] at hv7
      have hx0 : (done ++ x :: rest2)[done.length]'(by simp) = x := by simp
      rw [hx0] at hcl
      have h20 : 0 ≤ ((done.length : Nat) : Int) ∧ ((done.length : Nat) : Int) < ((o0.length : Nat) : Int) := by omega
      have w1' : IntKind.i64.wrap x = x := wrap_i64 (by omega) (by omega)
      have w2' : IntKind.i64.wrap (x * 256) = x * 256 := wrap_i64 (by omega) (by omega)
      have w3' : IntKind.i64.wrap (c + x * 256) = c + x * 256 := wrap_i64 (by omega) (by omega)
      have w4' : Int.tmod (c + x * 256) 58 = (c + x * 256) % 58 := Int.tmod_eq_emod_of_nonneg (by omega)
      have w5' : IntKind.u8.wrap ((c + x * 256) % 58) = (c + x * 256) % 58 := by rw [wrap_u8]; omega
      have w6' : IntKind.i64.wrap (Int.tdiv (c + x * 256) 58) = (c + x * 256) / 58 := by rw [Int.tdiv_eq_ediv_of_nonneg (by omega)]; exact wrap_i64 (by omega) (by omega)
      have w7' : IntKind.i64.wrap ((done.length : Nat) + 1) = ((done.length + 1 : Nat) : Int) := wrap_i64 (by omega) (by omega)
      have k4 := k1.at o2 n4
      have k5 := k1.at o3 n5
      subst hv7
      have ho0 : o = 0 := by
        rcases k3.2 with ⟨e1, _⟩ | ⟨g', cap', cur', e1, _⟩
        · cases e1
        · injection e1 with e2 _ _
          injection e2 with e3
          injection e3
      subst ho0
      rw [Nat.zero_add] at hcl
      simp (disch := first | omega | assumption | rfl | (simp only [vcS] <;> omega) | fail) only [↓vcC, slc3_s, ↓ptV_l, ↓vcA, vcB, ↓vcD, vcE, ↓reduceIte, Nat.reduceEqDiff, Nat.reduceAdd, Nat.reduceMul, Nat.reduceLeDiff, Int.reduceLE, Int.reduceLT, Int.reduceEq, Int.reduceToNat, Int.reduceAdd, Int.reduceSub, Int.reduceMul, Int.reduceNeg, reduceCtorEq, Option.bind_some, Option.map_some, List.length_cons, List.length_nil, vcM, List.getElem?_toArray, List.getElem?_cons_zero, List.getElem?_cons_succ, l21, l20, hjl']
      (refine nx_at ?_; simp (disch := first | omega | assumption | rfl | (simp only [vcS] <;> omega) | fail) only [↓vcC, slc3_s, ↓ptV_l, ↓vcA, vcB, ↓vcD, vcE, ↓reduceIte, Nat.reduceEqDiff, Nat.reduceAdd, Nat.reduceMul, Nat.reduceLeDiff, Int.reduceLE, Int.reduceLT, Int.reduceEq, Int.reduceToNat, Int.reduceAdd, Int.reduceSub, Int.reduceMul, Int.reduceNeg, reduceCtorEq, Option.bind_some, Option.map_some, List.length_cons, List.length_nil, vcM, List.getElem?_toArray, List.getElem?_cons_zero, List.getElem?_cons_succ])
      (refine nx_at ?_; simp (disch := first | omega | assumption | rfl | (simp only [vcS] <;> omega) | fail) only [↓vcC, slc3_s, ↓ptV_l, ↓vcA, vcB, ↓vcD, vcE, ↓reduceIte, Nat.reduceEqDiff, Nat.reduceAdd, Nat.reduceMul, Nat.reduceLeDiff, Int.reduceLE, Int.reduceLT, Int.reduceEq, Int.reduceToNat, Int.reduceAdd, Int.reduceSub, Int.reduceMul, Int.reduceNeg, reduceCtorEq, Option.bind_some, Option.map_some, List.length_cons, List.length_nil, vcM, List.getElem?_toArray, List.getElem?_cons_zero, List.getElem?_cons_succ, l21, l19, h20, Int.toNat_natCast, Nat.mul_one, hcl])
      (refine nx_at ?_; simp (disch := first | omega | assumption | rfl | (simp only [vcS] <;> omega) | fail) only [↓vcC, slc3_s, ↓ptV_l, ↓vcA, vcB, ↓vcD, vcE, ↓reduceIte, Nat.reduceEqDiff, Nat.reduceAdd, Nat.reduceMul, Nat.reduceLeDiff, Int.reduceLE, Int.reduceLT, Int.reduceEq, Int.reduceToNat, Int.reduceAdd, Int.reduceSub, Int.reduceMul, Int.reduceNeg, reduceCtorEq, Option.bind_some, Option.map_some, List.length_cons, List.length_nil, vcM, List.getElem?_toArray, List.getElem?_cons_zero, List.getElem?_cons_succ, l10, l4, k4, w1', w2', w3'])
      (refine nx_at ?_; simp (disch := first | omega | assumption | rfl | (simp only [vcS] <;> omega) | fail) only [↓vcC, slc3_s, ↓ptV_l, ↓vcA, vcB, ↓vcD, vcE, ↓reduceIte, Nat.reduceEqDiff, Nat.reduceAdd, Nat.reduceMul, Nat.reduceLeDiff, Int.reduceLE, Int.reduceLT, Int.reduceEq, Int.reduceToNat, Int.reduceAdd, Int.reduceSub, Int.reduceMul, Int.reduceNeg, reduceCtorEq, Option.bind_some, Option.map_some, List.length_cons, List.length_nil, vcM, List.getElem?_toArray, List.getElem?_cons_zero, List.getElem?_cons_succ, l7, l5, k2, k5, w4', w5', h20, Int.toNat_natCast, Nat.mul_one])
      obtain ⟨r1, o1'⟩ := (k3.ext ((Keep.refl _ W1).drew)).set1 (i := done.length) (by simp) ((c + x * 256) % 58)
      have k7 : Keep (WS p7 (.slice (some ⟨b, 0, none⟩) o0.length cap)) W1 (W1.drew.setCell ⟨b, done.length, none⟩ (.int .u8 ((c + x * 256) % 58))) := ((Keep.refl _ W1).drew).setCell _ fun _ => .inr rfl
      have k8 : (W1.drew.setCell ⟨b, done.length, none⟩ (.int .u8 ((c + x * 256) % 58))).heap[p7]? = some (.cells #[.slice (some ⟨b, 0, none⟩) o0.length cap] 28 (0, 0)) := by
        exact (show Keep (fun i => i = b) W1 (W1.drew.setCell ⟨b, done.length, none⟩ (.int .u8 ((c + x * 256) % 58))) from ((Keep.refl _ W1).drew).setCell _ fun _ => rfl).at k2 (fun e => n7 (by rw [e]; rfl))
      first | (refine ⟨r1, ?_⟩) | skip
      rw [set_mid] at o1'
      have k9 := k1.trans k7 fun i _ h => h
      have k5' := k9.at o3 n5
      generalize World.setCell _ _ _ = W2 at o1' k7 k8 k9 k5' ⊢
      (refine nx_at ?_; simp (disch := first | omega | assumption | rfl | (simp only [vcS] <;> omega) | fail) only [↓vcC, slc3_s, ↓ptV_l, ↓vcA, vcB, ↓vcD, vcE, ↓reduceIte, Nat.reduceEqDiff, Nat.reduceAdd, Nat.reduceMul, Nat.reduceLeDiff, Int.reduceLE, Int.reduceLT, Int.reduceEq, Int.reduceToNat, Int.reduceAdd, Int.reduceSub, Int.reduceMul, Int.reduceNeg, reduceCtorEq, Option.bind_some, Option.map_some, List.length_cons, List.length_nil, vcM, List.getElem?_toArray, List.getElem?_cons_zero, List.getElem?_cons_succ, l10, l5, k5', w6'])
      (refine nx_at ?_; simp (disch := first | omega | assumption | rfl | (simp only [vcS] <;> omega) | fail) only [↓vcC, slc3_s, ↓ptV_l, ↓vcA, vcB, ↓vcD, vcE, ↓reduceIte, Nat.reduceEqDiff, Nat.reduceAdd, Nat.reduceMul, Nat.reduceLeDiff, Int.reduceLE, Int.reduceLT, Int.reduceEq, Int.reduceToNat, Int.reduceAdd, Int.reduceSub, Int.reduceMul, Int.reduceNeg, reduceCtorEq, Option.bind_some, Option.map_some, List.length_cons, List.length_nil, vcM, List.getElem?_toArray, List.getElem?_cons_zero, List.getElem?_cons_succ, l21, w7'])
      rw [carryF] at hcar
      refine ⟨j - 1, by omega, done ++ [(c + x * 256) % 58], rest2, (c + x * 256) / 58, by simp; omega, by simp at hrl; omega, by simp, l20, l19, rfl, l4, l5, l7, by omega, fun y hy => hrd y (List.mem_cons_of_mem _ hy), by rw [hcar]; simp, k9, k8, by simpa using o1'⟩
    · have hr0 : rest = [] := List.eq_nil_of_length_eq_zero (by omega)
      subst hr0
      have hjl' : ¬ ((done.length : Nat) : Int) < ((o0.length : Nat) : Int) := by omega
      rw [List.append_nil] at k3
      have hm : done ++ digF 256 c = mulF o0 d := by rw [mulF, hcar]; simp [carryF]
      simp (disch := first | omega | assumption | rfl | (simp only [vcS] <;> omega) | fail) only [↓vcC, slc3_s, ↓ptV_l, ↓vcA, vcB, ↓vcD, vcE, ↓reduceIte, Nat.reduceEqDiff, Nat.reduceAdd, Nat.reduceMul, Nat.reduceLeDiff, Int.reduceLE, Int.reduceLT, Int.reduceEq, Int.reduceToNat, Int.reduceAdd, Int.reduceSub, Int.reduceMul, Int.reduceNeg, reduceCtorEq, Option.bind_some, Option.map_some, List.length_cons, List.length_nil, vcM, List.getElem?_toArray, List.getElem?_cons_zero, List.getElem?_cons_succ, l21, l20, hjl']
      (refine nx_at ?_; simp (disch := first | omega | assumption | rfl | (simp only [vcS] <;> omega) | fail) only [↓vcC, slc3_s, ↓ptV_l, ↓vcA, vcB, ↓vcD, vcE, ↓reduceIte, Nat.reduceEqDiff, Nat.reduceAdd, Nat.reduceMul, Nat.reduceLeDiff, Int.reduceLE, Int.reduceLT, Int.reduceEq, Int.reduceToNat, Int.reduceAdd, Int.reduceSub, Int.reduceMul, Int.reduceNeg, reduceCtorEq, Option.bind_some, Option.map_some, List.length_cons, List.length_nil, vcM, List.getElem?_toArray, List.getElem?_cons_zero, List.getElem?_cons_succ])
      refine lp_of (K := fun _ _ _ => False) (fun j ds e W' => ds = [] ∧ ∃ acc c v', c.toNat ≤ j ∧ acc ++ digF j c = mulF o0 d ∧ (0 ≤ c ∧ c ≤ 255) ∧ acc.length ≤ 10000 + (256 - j) ∧ j ≤ 256 ∧ Vc.look e 10 = some (.int .i64 c) ∧
        Vc.look e 4 = some (.pointer (some ⟨p4, 0, none⟩)) ∧ Vc.look e 5 = some (.pointer (some ⟨p5, 0, none⟩)) ∧ Vc.look e 7 = some (.pointer (some ⟨p7, 0, none⟩)) ∧
        Keep (WS p7 v7) W W' ∧ W'.heap[p7]? = some (.cells #[v'] 28 (0, 0)) ∧ Own1 W' v' acc ∧ ∀ g, blk v' g → blk v7 g ∨ W.heap.size ≤ g) 256 ?_ ?_
      · exact ⟨rfl, done, c, v7, by omega, hm, hc, by omega, Nat.le_refl _, l10, l4, l5, l7, k1, k2, k3, fun g hg => .inl hg⟩
      rintro j2 ds e W2 ⟨rfl, acc, c2, v', hcj, hacc, hc2, hal, hj256, l10, l4, l5, l7, q1, q2, q3, q4⟩
      by_cases hpos : 0 < c2
      · obtain ⟨j3, rfl⟩ : ∃ j3, j2 = j3 + 1 := ⟨j2 - 1, by omega⟩
        rw [digF, if_pos hpos] at hacc
        have u1 : Int.tmod c2 58 = c2 % 58 := Int.tmod_eq_emod_of_nonneg (by omega)
        have u2 : IntKind.u8.wrap (c2 % 58) = c2 % 58 := by rw [wrap_u8]; omega
        have u3 : IntKind.i64.wrap (Int.tdiv c2 58) = c2 / 58 := by rw [Int.tdiv_eq_ediv_of_nonneg (by omega)]; exact wrap_i64 (by omega) (by omega)
        have q5 := q1.at o3 n5
        simp (disch := first | omega | assumption | rfl | (simp only [vcS] <;> omega) | fail) only [↓vcC, slc3_s, ↓ptV_l, ↓vcA, vcB, ↓vcD, vcE, ↓reduceIte, Nat.reduceEqDiff, Nat.reduceAdd, Nat.reduceMul, Nat.reduceLeDiff, Int.reduceLE, Int.reduceLT, Int.reduceEq, Int.reduceToNat, Int.reduceAdd, Int.reduceSub, Int.reduceMul, Int.reduceNeg, reduceCtorEq, Option.bind_some, Option.map_some, List.length_cons, List.length_nil, vcM, List.getElem?_toArray, List.getElem?_cons_zero, List.getElem?_cons_succ, l10, hpos]
        (refine nx_at ?_; simp (disch := first | omega | assumption | rfl | (simp only [vcS] <;> omega) | fail) only [↓vcC, slc3_s, ↓ptV_l, ↓vcA, vcB, ↓vcD, vcE, ↓reduceIte, Nat.reduceEqDiff, Nat.reduceAdd, Nat.reduceMul, Nat.reduceLeDiff, Int.reduceLE, Int.reduceLT, Int.reduceEq, Int.reduceToNat, Int.reduceAdd, Int.reduceSub, Int.reduceMul, Int.reduceNeg, reduceCtorEq, Option.bind_some, Option.map_some, List.length_cons, List.length_nil, vcM, List.getElem?_toArray, List.getElem?_cons_zero, List.getElem?_cons_succ])
        (refine nx_at ?_; simp (disch := first | omega | assumption | rfl | (simp only [vcS] <;> omega) | fail) only [↓vcC, slc3_s, ↓ptV_l, ↓vcA, vcB, ↓vcD, vcE, ↓reduceIte, Nat.reduceEqDiff, Nat.reduceAdd, Nat.reduceMul, Nat.reduceLeDiff, Int.reduceLE, Int.reduceLT, Int.reduceEq, Int.reduceToNat, Int.reduceAdd, Int.reduceSub, Int.reduceMul, Int.reduceNeg, reduceCtorEq, Option.bind_some, Option.map_some, List.length_cons, List.length_nil, vcM, List.getElem?_toArray, List.getElem?_cons_zero, List.getElem?_cons_succ, l7, l10, l5, q2, q5, u1, u2])
        refine ⟨?_, ?_⟩
        · rw [heap_old _ _ _ (Nat.ne_of_lt (lt_of_heap (show W2.drew.heap[p7]? = _ from q2)))]
          rw [show W2.drew.heap[p7]? = _ from q2]; rfl
        refine appL (news := [c2 % 58]) (q3.ext ((Keep.refl _ W2).drew)) (by simp; omega) fun v2 W3 r1 r2 r3 => ?_
        have r4 : W3.heap[p7]? = some (.cells #[v'] 28 (0, 0)) := r2.at (show W2.drew.heap[p7]? = _ from q2) (fun e => by obtain ⟨cur, hc⟩ := row_type q3 e; rw [q2] at hc; cases hc)
        have nb : ∀ g, blk v2 g → g ≠ p7 := fun g hg e => by
          rcases r3 g hg with e2 | e2
          · subst e; obtain ⟨cur, hc⟩ := row_type q3 e2; rw [q2] at hc; cases hc
          · have := lt_of_heap (show W2.drew.heap[p7]? = _ from q2); omega
        refine ⟨one_row r1, wr1_of r4 (by simp), ?_⟩
        have r5 : (W3.setCell ⟨p7, 0, none⟩ v2).heap[p7]? = some (.cells #[v2] 28 (0, 0)) := by rw [heap_setCell_eq r4]; rfl
        have r6 : Keep (fun i => i = p7) W3 (W3.setCell ⟨p7, 0, none⟩ v2) := (Keep.refl _ W3).setCell _ fun _ => rfl
        have r7 : Keep (WS p7 v7) W W3 := by
          refine (q1.drew).trans r2 fun i hi e => ?_
          rcases q4 i e with e2 | e2
          · exact .inr e2
          · omega
        have r8 := r7.trans r6 fun i _ e => .inl e
        have r9 := r8.at o3 n5
        generalize World.setCell _ _ _ = W4 at r5 r6 r8 r9 ⊢
        (refine nx_at ?_; simp (disch := first | omega | assumption | rfl | (simp only [vcS] <;> omega) | fail) only [↓vcC, slc3_s, ↓ptV_l, ↓vcA, vcB, ↓vcD, vcE, ↓reduceIte, Nat.reduceEqDiff, Nat.reduceAdd, Nat.reduceMul, Nat.reduceLeDiff, Int.reduceLE, Int.reduceLT, Int.reduceEq, Int.reduceToNat, Int.reduceAdd, Int.reduceSub, Int.reduceMul, Int.reduceNeg, reduceCtorEq, Option.bind_some, Option.map_some, List.length_cons, List.length_nil, vcM, List.getElem?_toArray, List.getElem?_cons_zero, List.getElem?_cons_succ, l10, l5, r9, u3])
        refine ⟨j3, rfl, acc ++ [c2 % 58], c2 / 58, v2, by omega, by rw [← hacc]; simp, by omega, by simp; omega, by omega, rfl, l4, l7, r8, r5, r1.keep r6 fun g hg e => nb g hg e, fun g hg => ?_⟩
        rcases r3 g hg with e2 | e2
        · exact q4 g e2
        · exact .inr (Nat.le_trans q1.size e2)
      · have hneg : ¬ 0 < c2 := hpos
        have hz : digF j2 c2 = [] := by cases j2 <;> simp [digF, hneg]
        rw [hz, List.append_nil] at hacc
        simp (disch := first | omega | assumption | rfl | (simp only [vcS] <;> omega) | fail) only [↓vcC, slc3_s, ↓ptV_l, ↓vcA, vcB, ↓vcD, vcE, ↓reduceIte, Nat.reduceEqDiff, Nat.reduceAdd, Nat.reduceMul, Nat.reduceLeDiff, Int.reduceLE, Int.reduceLT, Int.reduceEq, Int.reduceToNat, Int.reduceAdd, Int.reduceSub, Int.reduceMul, Int.reduceNeg, reduceCtorEq, Option.bind_some, Option.map_some, List.length_cons, List.length_nil, vcM, List.getElem?_toArray, List.getElem?_cons_zero, List.getElem?_cons_succ, l10, hneg]
        (refine nx_at ?_; simp (disch := first | omega | assumption | rfl | (simp only [vcS] <;> omega) | fail) only [↓vcC, slc3_s, ↓ptV_l, ↓vcA, vcB, ↓vcD, vcE, ↓reduceIte, Nat.reduceEqDiff, Nat.reduceAdd, Nat.reduceMul, Nat.reduceLeDiff, Int.reduceLE, Int.reduceLT, Int.reduceEq, Int.reduceToNat, Int.reduceAdd, Int.reduceSub, Int.reduceMul, Int.reduceNeg, reduceCtorEq, Option.bind_some, Option.map_some, List.length_cons, List.length_nil, vcM, List.getElem?_toArray, List.getElem?_cons_zero, List.getElem?_cons_succ])
        rw [← hacc]
        exact fin W2 v' acc q1 q2 q3 q4
  · rintro D xs W hDD rfl ⟨⟨o1, o2, o3, o4, v7, o5, o6, o7⟩, m1, gs⟩ hDK
    have hrev : (List.finRange ids.length).reverse.map (fun (t : Fin ids.length) => ids[t.val]) = ids.reverse := by
      rw [List.map_reverse]
      congr 1
      exact List.ext_getElem (by simp) (fun i h1 h2 => by simp)
    rw [hrev] at o6
    (refine nx_at ?_; simp (disch := first | omega | assumption | rfl | (simp only [vcS] <;> omega) | fail) only [↓vcC, slc3_s, ↓ptV_l, ↓vcA, vcB, ↓vcD, vcE, ↓reduceIte, Nat.reduceEqDiff, Nat.reduceAdd, Nat.reduceMul, Nat.reduceLeDiff, Int.reduceLE, Int.reduceLT, Int.reduceEq, Int.reduceToNat, Int.reduceAdd, Int.reduceSub, Int.reduceMul, Int.reduceNeg, reduceCtorEq, Option.bind_some, Option.map_some, List.length_cons, List.length_nil, vcM, List.getElem?_toArray, List.getElem?_cons_zero, List.getElem?_cons_succ, o5])
    (refine nx_at ?_; simp (disch := first | omega | assumption | rfl | (simp only [vcS] <;> omega) | fail) only [↓vcC, slc3_s, ↓ptV_l, ↓vcA, vcB, ↓vcD, vcE, ↓reduceIte, Nat.reduceEqDiff, Nat.reduceAdd, Nat.reduceMul, Nat.reduceLeDiff, Int.reduceLE, Int.reduceLT, Int.reduceEq, Int.reduceToNat, Int.reduceAdd, Int.reduceSub, Int.reduceMul, Int.reduceNeg, reduceCtorEq, Option.bind_some, Option.map_some, List.length_cons, List.length_nil, vcM, List.getElem?_toArray, List.getElem?_cons_zero, List.getElem?_cons_succ])
    refine lvV_cons hDK ?_
    simp (disch := first | omega | assumption | rfl | (simp only [vcS] <;> omega) | fail) only [↓vcC, slc3_s, ↓ptV_l, ↓vcA, vcB, ↓vcD, vcE, ↓reduceIte, Nat.reduceEqDiff, Nat.reduceAdd, Nat.reduceMul, Nat.reduceLeDiff, Int.reduceLE, Int.reduceLT, Int.reduceEq, Int.reduceToNat, Int.reduceAdd, Int.reduceSub, Int.reduceMul, Int.reduceNeg, reduceCtorEq, Option.bind_some, Option.map_some, List.length_cons, List.length_nil, vcM, List.getElem?_toArray, List.getElem?_cons_zero, List.getElem?_cons_succ, Ret_returned]
    have hkD : Keep (fun k => k = D) W (W.putObj D (.deferred none)) := (Keep.refl _ W).grown (grownBy_putObj' W D _) (fun k _ h => by cases h; rfl)
    exact ⟨o6.keep hkD (fun g hg e => by subst e; obtain ⟨cur, hc⟩ := row_type o6 hg; rw [hDK] at hc; cases hc), o1.trans hkD fun k hk e => by have := hO3.ext.size; omega, o7⟩
  · rintro D key pre W hDD hS hF hDK
    exact hF.elim
end Go.Proofs
