/- A journal's 'Open': the records. -/
import Derived.Test.YtfackfekmadjbaaJ9
set_option linter.unusedSimpArgs false
set_option linter.unusedVariables false
set_option linter.constructorNameAsVariable false
namespace Go.Proofs
open Go.Vc
set_option maxRecDepth 10000

def OpenR (w w' : World) (p : Nat) (J : JS) (u : Value) : Prop := ∃ jp sv rv, u = .tuple #[.pointer (some ⟨jp, 0, none⟩), .int .i64 0] ∧ JAt w' jp p sv rv J ∧ Ext w w' ∧ w.heap.size ≤ jp ∧ (∀ g, blk rv g → w.heap.size ≤ g) ∧ JIn (fun g => w.heap.size ≤ g) w' jp
theorem layF_snoc (l : List (List Int)) (b : List Int) : layF (l ++ [b]) = layF l ++ frame1 b := by simp [layF]
theorem layF_step {l : List (List Int)} {k : Nat} (h : k < l.length) : layF (l.take (k + 1)) = layF (l.take k) ++ frame1 l[k] := by
  rw [List.take_add_one, List.getElem?_eq_getElem h]
  exact layF_snoc _ _
theorem layF_cut {l : List (List Int)} {A rest : List Int} (hA : A = layF l ++ 0 :: rest) {k : Nat} (hk : k ≤ l.length) : A.drop (layF (l.take k)).length = layF (l.drop k) ++ 0 :: rest := by
  have e : layF l = layF (l.take k) ++ layF (l.drop k) := by
    unfold layF
    rw [← List.flatMap_append, List.take_append_drop]
  rw [hA, e, List.append_assoc, List.drop_left' rfl]
theorem layF_take_le {l : List (List Int)} (k : Nat) : (layF (l.take k)).length ≤ (layF l).length := by
  have e : layF l = layF (l.take k) ++ layF (l.drop k) := by
    unfold layF
    rw [← List.flatMap_append, List.take_append_drop]
  rw [e, List.length_append]
  omega
theorem layF_count (l : List (List Int)) : l.length ≤ (layF l).length := by
  induction l with
  | nil => exact Nat.le_refl _
  | cons b l ih =>
    have : layF (b :: l) = frame1 b ++ layF l := by simp [layF]
    rw [this, List.length_append, frame1_len, List.length_cons]
    omega
set_option maxHeartbeats 1600000 in
theorem open_recs (w0 : World) (p jp : Nat) (va : Value) (J : JS) (A rest : List Int) (hA : A = layF (allR J) ++ 0 :: rest) (hAb : byt A) (hAl : A.length ≤ 100000000) (hjp : w0.heap.size ≤ jp) (hst : J.head = 0 → J.state = []) (hpos : J.pos = (layF (allR J)).length) (hh : 0 ≤ J.head ∧ J.head ≤ 255)
    (hsm : ∀ b ∈ allR J, b.length < 4294967296) :
    ∀ (m k : Nat) (w : World) (vb rv : Value) (ok : Bool), k + m = (allR J).length → Ext w0 w → ByT w va A → JAt w jp p (.slice none 0 0) rv ⟨J.head, (layF ((allR J).take k)).length, [], (allR J).take k⟩ → (∀ g, blk rv g → w0.heap.size ≤ g) → JIn (fun g => w0.heap.size ≤ g) w jp →
      ok = decide (k < (allR J).length) → (∀ hk : k < (allR J).length, ByT w vb (allR J)[k] ∧ ∀ g, blk vb g → w0.heap.size ≤ g) →
      W Try.prog (Ret fun u w' => OpenR w0 w' p J u) 9 11 [(6, .pointer (some ⟨jp, 0, none⟩)), (7, va), (11, vb), (12, .bool ok)] w := by
  intro m
  induction m with
  | zero =>
    intro k w vb rv ok hk hE ha hj hrv hin hok hvb
    have hkl : ¬ k < (allR J).length := by omega
    rw [decide_eq_false hkl] at hok
    subst hok
    have htk : (allR J).take k = allR J := List.take_of_length_le (by omega)
    rw [htk] at hj
    have ho := hj.obj
    (refine W_at c9_ok ?_; refine ⟨_, rfl, ?_⟩; simp (disch := first | omega | assumption | rfl | (simp only [vcS] <;> omega) | fail) only [↓ptV_l, ↓vcA, vcB, ↓vcD, vcE, ↓reduceIte, Nat.reduceEqDiff, Nat.reduceAdd, Nat.reduceMul, Nat.reduceLeDiff, Int.reduceLE, Int.reduceLT, Int.reduceEq, Int.reduceToNat, Int.reduceAdd, Int.reduceSub, Int.reduceMul, Int.reduceNeg, reduceCtorEq, Option.bind_some, Option.map_some, List.length_cons, List.length_nil, vcM, List.getElem?_toArray, List.getElem?_cons_zero, List.getElem?_cons_succ])
    (refine W_at c9_ok ?_; refine ⟨_, rfl, ?_⟩; simp (disch := first | omega | assumption | rfl | (simp only [vcS] <;> omega) | fail) only [↓ptV_l, ↓vcA, vcB, ↓vcD, vcE, ↓reduceIte, Nat.reduceEqDiff, Nat.reduceAdd, Nat.reduceMul, Nat.reduceLeDiff, Int.reduceLE, Int.reduceLT, Int.reduceEq, Int.reduceToNat, Int.reduceAdd, Int.reduceSub, Int.reduceMul, Int.reduceNeg, reduceCtorEq, Option.bind_some, Option.map_some, List.length_cons, List.length_nil, vcM, List.getElem?_toArray, List.getElem?_cons_zero, List.getElem?_cons_succ])
    by_cases h0 : J.head > 0
    · have hne : J.head ≠ 0 := by omega
      have hall : allR J = J.state :: J.recs := by unfold allR; rw [if_neg hne]
      have hlen := hj.recs.len
      have hl1 : ((((allR J).length : Nat)) : Int) > 0 := by rw [hall, List.length_cons]; omega
      (refine W_at c9_ok ?_; refine ⟨_, rfl, ?_⟩; simp (disch := first | omega | assumption | rfl | (simp only [vcS] <;> omega) | fail) only [↓ptV_l, ↓vcA, vcB, ↓vcD, vcE, ↓reduceIte, Nat.reduceEqDiff, Nat.reduceAdd, Nat.reduceMul, Nat.reduceLeDiff, Int.reduceLE, Int.reduceLT, Int.reduceEq, Int.reduceToNat, Int.reduceAdd, Int.reduceSub, Int.reduceMul, Int.reduceNeg, reduceCtorEq, Option.bind_some, Option.map_some, List.length_cons, List.length_nil, vcM, List.getElem?_toArray, List.getElem?_cons_zero, List.getElem?_cons_succ, ho, h0, hlen, hl1])
      have hl0 : 0 < (allR J).length := by rw [hall]; simp
      obtain ⟨g, o, cap, v, e, hcell, hv⟩ := hj.recs.at (i := 0) hl0
      simp only at e hv
      have hv1 := hv.1.one
      obtain ⟨vs, hO, hAl⟩ := hj.recs
      have hvl := forall2_len hAl
      simp only at hvl hO hAl
      obtain ⟨q, c, e2, hcap, hO2⟩ := hO.drop (l := 1) (by rw [List.length_map]; omega)
      rw [List.length_map, hvl] at e2 hO2
      rw [e] at e2
      injection e2 with e3 e4 e5
      subst e3 e5
      rw [e] at ho
      have b1 : (0 : Int) < ((allR J).length : Nat) := by omega
      have b2 : (1 : Int) ≤ ((allR J).length : Nat) := by omega
      rw [Nat.add_zero] at hcell
      (refine W_at c9_ok ?_; refine ⟨_, rfl, ?_⟩; simp (disch := first | omega | assumption | rfl | (simp only [vcS] <;> omega) | fail) only [↓ptV_l, ↓vcA, vcB, ↓vcD, vcE, ↓reduceIte, Nat.reduceEqDiff, Nat.reduceAdd, Nat.reduceMul, Nat.reduceLeDiff, Int.reduceLE, Int.reduceLT, Int.reduceEq, Int.reduceToNat, Int.reduceAdd, Int.reduceSub, Int.reduceMul, Int.reduceNeg, reduceCtorEq, Option.bind_some, Option.map_some, List.length_cons, List.length_nil, vcM, List.getElem?_toArray, List.getElem?_cons_zero, List.getElem?_cons_succ])
      (refine W_at c9_ok ?_; refine ⟨_, rfl, ?_⟩; simp (disch := first | omega | assumption | rfl | (simp only [vcS] <;> omega) | fail) only [↓ptV_l, ↓vcA, vcB, ↓vcD, vcE, ↓reduceIte, Nat.reduceEqDiff, Nat.reduceAdd, Nat.reduceMul, Nat.reduceLeDiff, Int.reduceLE, Int.reduceLT, Int.reduceEq, Int.reduceToNat, Int.reduceAdd, Int.reduceSub, Int.reduceMul, Int.reduceNeg, reduceCtorEq, Option.bind_some, Option.map_some, List.length_cons, List.length_nil, vcM, List.getElem?_toArray, List.getElem?_cons_zero, List.getElem?_cons_succ, ho, b1, b2, hcell])
      have hEd : Ext w w.drew := (Keep.refl _ w).drew
      generalize hqv : Value.slice (advA 1 (some ⟨g, o, none⟩) cap 1) ((allR J).length - 1) (cap - 1) = rv2 at hO2 ⊢
      have hrv2 : ∀ g', blk rv2 g' → blk rv g' := fun g' hg' => by
        subst hqv
        rw [e]
        unfold advA at hg'
        split at hg'
        · exact hg'
        · have h8 : some ((⟨g, o, none⟩ : Addr).add (1 * 1)).block = some g' := hg'
          have h9 : ((⟨g, o, none⟩ : Addr).add (1 * 1)).block = g := by unfold Addr.add; split <;> rfl
          rw [h9] at h8
          exact h8
      have ho1 : w.drew.heap[jp]? = some (.cells #[.pointer (some ⟨p, 0, none⟩), .int .u8 J.head, .int .i64 (J.pos : Nat), .slice none 0 0, .slice (some ⟨g, o, none⟩) (allR J).length cap] 62 (0, 0)) := by rw [hpos]; exact ho
      have ho2 : (w.drew.setCell ⟨jp, 3, none⟩ v).heap[jp]? = some (.cells #[.pointer (some ⟨p, 0, none⟩), .int .u8 J.head, .int .i64 (J.pos : Nat), v, .slice (some ⟨g, o, none⟩) (allR J).length cap] 62 (0, 0)) := by rw [heap_setCell_eq ho1]; rfl
      have hk2 : Keep (fun g => g = jp) w (w.drew.setCell ⟨jp, 3, none⟩ v) := (Keep.refl _ w).drew.setCell _ fun _ => rfl
      refine ⟨hv1, wr1_of ho1 (by simp), wr1_of ho2 (by simp), ?_⟩
      generalize w.drew.setCell ⟨jp, 3, none⟩ v = w2 at ho2 hk2 ⊢
      have ho3 : (w2.setCell ⟨jp, 4, none⟩ rv2).heap[jp]? = some (.cells #[.pointer (some ⟨p, 0, none⟩), .int .u8 J.head, .int .i64 (J.pos : Nat), v, rv2] 62 (0, 0)) := by rw [heap_setCell_eq ho2]; rfl
      have hk3 : Keep (fun g => g = jp) w (w2.setCell ⟨jp, 4, none⟩ rv2) := hk2.setCell _ fun _ => rfl
      generalize World.setCell _ _ _ = w3 at ho3 hk3 ⊢
      (refine W_at c9_ok ?_; refine ⟨_, rfl, ?_⟩; simp (disch := first | omega | assumption | rfl | (simp only [vcS] <;> omega) | fail) only [↓ptV_l, ↓vcA, vcB, ↓vcD, vcE, ↓reduceIte, Nat.reduceEqDiff, Nat.reduceAdd, Nat.reduceMul, Nat.reduceLeDiff, Int.reduceLE, Int.reduceLT, Int.reduceEq, Int.reduceToNat, Int.reduceAdd, Int.reduceSub, Int.reduceMul, Int.reduceNeg, reduceCtorEq, Option.bind_some, Option.map_some, List.length_cons, List.length_nil, vcM, List.getElem?_toArray, List.getElem?_cons_zero, List.getElem?_cons_succ])
      (refine W_at c9_ok ?_; refine ⟨_, rfl, ?_⟩; simp (disch := first | omega | assumption | rfl | (simp only [vcS] <;> omega) | fail) only [↓ptV_l, ↓vcA, vcB, ↓vcD, vcE, ↓reduceIte, Nat.reduceEqDiff, Nat.reduceAdd, Nat.reduceMul, Nat.reduceLeDiff, Int.reduceLE, Int.reduceLT, Int.reduceEq, Int.reduceToNat, Int.reduceAdd, Int.reduceSub, Int.reduceMul, Int.reduceNeg, reduceCtorEq, Option.bind_some, Option.map_some, List.length_cons, List.length_nil, vcM, List.getElem?_toArray, List.getElem?_cons_zero, List.getElem?_cons_succ, Ret_returned])
      have nj : ∀ g c t, w.heap[g]? = some (.cells c t (0, 0)) → t ≠ 62 → ¬ g = jp := fun g c t hg ht e => by rw [e, ho] at hg; cases hg; exact ht rfl
      have hv3 := hv.keep hk3 fun g c hg => nj g c _ hg (by decide)
      have hv0 : (allR J)[0] = J.state := by simp [hall]
      rw [hv0] at hv3
      refine ⟨jp, v, rv2, rfl, ⟨ho3, hv3, ?_⟩, hE.trans hk3 fun i hi e => by omega, hjp, fun g' hg' => hrv g' (hrv2 g' hg'), ?_⟩
      rotate_left
      · have hO3 := hO2.keep hk3 fun g' hg' => by
          obtain ⟨c', hc⟩ := (hO2.blk hg').2
          exact nj g' c' _ hc (by decide)
        have hi0 := (hin.is hj hO).2
        rw [← List.map_drop] at hO3
        have hv00 : v ∈ vs := by
          obtain ⟨g1, o1, cap1, cur1, e1, hh1, hr1⟩ := hO.at (j := 0) (by rw [List.length_map]; omega)
          rw [e] at e1
          injection e1 with e2 e3 e4
          injection e2 with e2
          injection e2 with e5 e6
          subst e5 e6
          have hr2 := rdO_cell hr1 (j := 0) (by omega)
          rw [Nat.zero_mul, Nat.add_zero, hcell] at hr2
          simp only [List.getElem_map] at hr2
          have : v = vs[0]'(by omega) := Option.some.inj hr2
          rw [this]
          exact List.getElem_mem _
        exact ⟨_, _, _, v, rv2, ho3, fun g hg => hi0 v hv00 g hg, vs.drop 1, hO3, fun v' hv' => hi0 v' (List.mem_of_mem_drop hv')⟩
      cases vs with
      | nil => rw [hall] at hvl; simp at hvl
      | cons v0 vs =>
        have hA2 : AllB w vs J.recs := by
          rw [hall] at hAl
          cases hAl with
          | cons _ h => exact h
        refine ⟨vs, ?_, forall2_keep hA2 fun v bs hb => hb.keep hk3 fun g c hg => nj g c _ hg (by decide)⟩
        refine OwnO.keep hO2 hk3 fun g' hg' => ?_
        obtain ⟨c', hc⟩ := (hO2.blk hg').2
        exact nj g' c' _ hc (by decide)
    · have hz : J.head = 0 := by omega
      have hall : allR J = J.recs := by unfold allR; rw [if_pos hz]
      (refine W_at c9_ok ?_; refine ⟨_, rfl, ?_⟩; simp (disch := first | omega | assumption | rfl | (simp only [vcS] <;> omega) | fail) only [↓ptV_l, ↓vcA, vcB, ↓vcD, vcE, ↓reduceIte, Nat.reduceEqDiff, Nat.reduceAdd, Nat.reduceMul, Nat.reduceLeDiff, Int.reduceLE, Int.reduceLT, Int.reduceEq, Int.reduceToNat, Int.reduceAdd, Int.reduceSub, Int.reduceMul, Int.reduceNeg, reduceCtorEq, Option.bind_some, Option.map_some, List.length_cons, List.length_nil, vcM, List.getElem?_toArray, List.getElem?_cons_zero, List.getElem?_cons_succ, ho, h0])
      (refine W_at c9_ok ?_; refine ⟨_, rfl, ?_⟩; simp (disch := first | omega | assumption | rfl | (simp only [vcS] <;> omega) | fail) only [↓ptV_l, ↓vcA, vcB, ↓vcD, vcE, ↓reduceIte, Nat.reduceEqDiff, Nat.reduceAdd, Nat.reduceMul, Nat.reduceLeDiff, Int.reduceLE, Int.reduceLT, Int.reduceEq, Int.reduceToNat, Int.reduceAdd, Int.reduceSub, Int.reduceMul, Int.reduceNeg, reduceCtorEq, Option.bind_some, Option.map_some, List.length_cons, List.length_nil, vcM, List.getElem?_toArray, List.getElem?_cons_zero, List.getElem?_cons_succ])
      (refine W_at c9_ok ?_; refine ⟨_, rfl, ?_⟩; simp (disch := first | omega | assumption | rfl | (simp only [vcS] <;> omega) | fail) only [↓ptV_l, ↓vcA, vcB, ↓vcD, vcE, ↓reduceIte, Nat.reduceEqDiff, Nat.reduceAdd, Nat.reduceMul, Nat.reduceLeDiff, Int.reduceLE, Int.reduceLT, Int.reduceEq, Int.reduceToNat, Int.reduceAdd, Int.reduceSub, Int.reduceMul, Int.reduceNeg, reduceCtorEq, Option.bind_some, Option.map_some, List.length_cons, List.length_nil, vcM, List.getElem?_toArray, List.getElem?_cons_zero, List.getElem?_cons_succ])
      (refine W_at c9_ok ?_; refine ⟨_, rfl, ?_⟩; simp (disch := first | omega | assumption | rfl | (simp only [vcS] <;> omega) | fail) only [↓ptV_l, ↓vcA, vcB, ↓vcD, vcE, ↓reduceIte, Nat.reduceEqDiff, Nat.reduceAdd, Nat.reduceMul, Nat.reduceLeDiff, Int.reduceLE, Int.reduceLT, Int.reduceEq, Int.reduceToNat, Int.reduceAdd, Int.reduceSub, Int.reduceMul, Int.reduceNeg, reduceCtorEq, Option.bind_some, Option.map_some, List.length_cons, List.length_nil, vcM, List.getElem?_toArray, List.getElem?_cons_zero, List.getElem?_cons_succ, Ret_returned])
      refine ⟨jp, .slice none 0 0, rv, rfl, ⟨?_, ?_, ?_⟩, hE, hjp, hrv, hin⟩
      · rw [ho, hpos]
      · rw [hst hz]; exact ByT.nil _
      · rw [← hall]; exact hj.recs
  | succ m ih =>
    intro k w vb rv ok hk hE ha hj hrv hin hok hvb
    have hkl : k < (allR J).length := by omega
    rw [decide_eq_true hkl] at hok
    subst hok
    have ho := hj.obj
    (refine W_at c9_ok ?_; refine ⟨_, rfl, ?_⟩; simp (disch := first | omega | assumption | rfl | (simp only [vcS] <;> omega) | fail) only [↓ptV_l, ↓vcA, vcB, ↓vcD, vcE, ↓reduceIte, Nat.reduceEqDiff, Nat.reduceAdd, Nat.reduceMul, Nat.reduceLeDiff, Int.reduceLE, Int.reduceLT, Int.reduceEq, Int.reduceToNat, Int.reduceAdd, Int.reduceSub, Int.reduceMul, Int.reduceNeg, reduceCtorEq, Option.bind_some, Option.map_some, List.length_cons, List.length_nil, vcM, List.getElem?_toArray, List.getElem?_cons_zero, List.getElem?_cons_succ])
    (refine W_at c9_ok ?_; refine ⟨_, rfl, ?_⟩; simp (disch := first | omega | assumption | rfl | (simp only [vcS] <;> omega) | fail) only [↓ptV_l, ↓vcA, vcB, ↓vcD, vcE, ↓reduceIte, Nat.reduceEqDiff, Nat.reduceAdd, Nat.reduceMul, Nat.reduceLeDiff, Int.reduceLE, Int.reduceLT, Int.reduceEq, Int.reduceToNat, Int.reduceAdd, Int.reduceSub, Int.reduceMul, Int.reduceNeg, reduceCtorEq, Option.bind_some, Option.map_some, List.length_cons, List.length_nil, vcM, List.getElem?_toArray, List.getElem?_cons_zero, List.getElem?_cons_succ])
    obtain ⟨hv, hvn⟩ := hvb hkl
    obtain ⟨q, c, e, _⟩ := hv.1.is
    have hv1 := hv.1.one
    have hlb := hv.1.len
    subst e
    (refine W_at c9_ok ?_; refine ⟨_, rfl, ?_⟩; simp (disch := first | omega | assumption | rfl | (simp only [vcS] <;> omega) | fail) only [↓ptV_l, ↓vcA, vcB, ↓vcD, vcE, ↓reduceIte, Nat.reduceEqDiff, Nat.reduceAdd, Nat.reduceMul, Nat.reduceLeDiff, Int.reduceLE, Int.reduceLT, Int.reduceEq, Int.reduceToNat, Int.reduceAdd, Int.reduceSub, Int.reduceMul, Int.reduceNeg, reduceCtorEq, Option.bind_some, Option.map_some, List.length_cons, List.length_nil, vcM, List.getElem?_toArray, List.getElem?_cons_zero, List.getElem?_cons_succ, ho])
    obtain ⟨vs, hO, hAl⟩ := hj.recs
    have hvl := forall2_len hAl
    simp only at hvl hO hAl
    have hcnt := layF_count (allR J)
    have hLA : (layF (allR J)).length + 1 ≤ A.length := by rw [hA, List.length_append, List.length_cons]; omega
    have hstep := layF_step hkl
    have hle := layF_take_le (l := allR J) (k + 1)
    have hll : (layF ((allR J).take (k + 1))).length = (layF ((allR J).take k)).length + (5 + (allR J)[k].length) := by rw [hstep, List.length_append, frame1_len]
    refine appRow hO hv1 (by rw [hvl, List.length_take]; omega) (Nat.zero_le _) fun rv' w7 hO7 hk7 hb7 => ?_
    have hAl7 := RowsT.app hO hAl hv hk7
    have nrv : ∀ g c, w.heap[g]? = some (.cells c 5 (0, 0)) → ¬ blk rv g := fun g c hg hb => by
      obtain ⟨c', hc⟩ := (hO.blk hb).2
      rw [hg] at hc
      cases hc
    have hnrv : ¬ blk rv jp := hj.nerv
    have ho7 := hk7.at ho hnrv
    have ha7 := ha.keep hk7 nrv
    refine ⟨hO7.one, wr1_of ho7 (by simp), ?_⟩
    have ho8 : (w7.setCell ⟨jp, 4, none⟩ rv').heap[jp]? = some (.cells #[.pointer (some ⟨p, 0, none⟩), .int .u8 J.head, .int .i64 ((layF ((allR J).take k)).length : Nat), .slice none 0 0, rv'] 62 (0, 0)) := by rw [heap_setCell_eq ho7]; rfl
    have hk8 : Keep (fun g => g = jp) w7 (w7.setCell ⟨jp, 4, none⟩ rv') := (Keep.refl _ w7).setCell _ fun _ => rfl
    generalize World.setCell _ _ _ = w8 at ho8 hk8 ⊢
    have hw5 : IntKind.i64.wrap (5 + (((allR J)[k].length : Nat) : Int)) = 5 + (((allR J)[k].length : Nat) : Int) := wrap_i64 (by omega) (by omega)
    have hw6 : IntKind.i64.wrap (((layF ((allR J).take k)).length : Nat) + (5 + (((allR J)[k].length : Nat) : Int))) = ((layF ((allR J).take (k + 1))).length : Nat) := by rw [wrap_i64 (by omega) (by omega)]; omega
    (refine W_at c9_ok ?_; refine ⟨_, rfl, ?_⟩; simp (disch := first | omega | assumption | rfl | (simp only [vcS] <;> omega) | fail) only [↓ptV_l, ↓vcA, vcB, ↓vcD, vcE, ↓reduceIte, Nat.reduceEqDiff, Nat.reduceAdd, Nat.reduceMul, Nat.reduceLeDiff, Int.reduceLE, Int.reduceLT, Int.reduceEq, Int.reduceToNat, Int.reduceAdd, Int.reduceSub, Int.reduceMul, Int.reduceNeg, reduceCtorEq, Option.bind_some, Option.map_some, List.length_cons, List.length_nil, vcM, List.getElem?_toArray, List.getElem?_cons_zero, List.getElem?_cons_succ, ho8, hlb, hw5, hw6])
    refine ⟨wr1_of ho8 (by simp), ?_⟩
    have ho9 : (w8.setCell ⟨jp, 2, none⟩ (.int .i64 ((layF ((allR J).take (k + 1))).length : Nat))).heap[jp]? = some (.cells #[.pointer (some ⟨p, 0, none⟩), .int .u8 J.head, .int .i64 ((layF ((allR J).take (k + 1))).length : Nat), .slice none 0 0, rv'] 62 (0, 0)) := by rw [heap_setCell_eq ho8]; rfl
    have hk9 : Keep (fun g => g = jp) w7 (w8.setCell ⟨jp, 2, none⟩ (.int .i64 ((layF ((allR J).take (k + 1))).length : Nat))) := hk8.setCell _ fun _ => rfl
    generalize World.setCell _ _ _ = w9 at ho9 hk9 ⊢
    have nj7 : ∀ g c t, w7.heap[g]? = some (.cells c t (0, 0)) → t ≠ 62 → ¬ g = jp := fun g c t hg ht e => by rw [e, ho7] at hg; cases hg; exact ht rfl
    have ha9 := ha7.keep hk9 fun g c hg => nj7 g c _ hg (by decide)
    have hr9 : RowsT w9 rv' ((allR J).take (k + 1)) := by
      refine ⟨vs ++ [.slice q (allR J)[k].length c], hO7.keep hk9 fun g hg => ?_, ?_⟩
      · obtain ⟨c', hc⟩ := (hO7.blk hg).2
        exact nj7 g c' _ hc (by decide)
      · have e : (allR J).take (k + 1) = (allR J).take k ++ [(allR J)[k]] := by rw [List.take_add_one, List.getElem?_eq_getElem hkl]; rfl
        rw [e]
        exact forall2_keep hAl7 fun v bs hb => hb.keep hk9 fun g c hg => nj7 g c _ hg (by decide)
    have hi9 : JIn (fun g => w0.heap.size ≤ g) w9 jp := by
      refine ⟨_, _, _, _, rv', ho9, fun g hg => (by cases hg), vs ++ [.slice q (allR J)[k].length c], hO7.keep hk9 fun g hg => ?_, fun v hv' g hg => ?_⟩
      · obtain ⟨c', hc⟩ := (hO7.blk hg).2
        exact nj7 g c' _ hc (by decide)
      · rcases List.mem_append.1 hv' with hv' | hv'
        · exact (hin.is hj hO).2 v hv' g hg
        · rw [List.mem_singleton.1 hv'] at hg
          exact hvn g hg
    have hj9 : JAt w9 jp p (.slice none 0 0) rv' ⟨J.head, (layF ((allR J).take (k + 1))).length, [], (allR J).take (k + 1)⟩ := ⟨ho9, ByT.nil _, hr9⟩
    have hE7 : Ext w0 w7 := hE.trans hk7 fun i hi hb => by have := hrv i hb; omega
    have hE9 : Ext w0 w9 := hE7.trans hk9 fun i hi e => by omega
    have hrv' : ∀ g, blk rv' g → w0.heap.size ≤ g := fun g hg => by
      rcases hb7 g hg with h | h
      · exact hrv g h
      · exact Nat.le_trans hE.size h
    have hil : (layF ((allR J).take (k + 1))).length ≤ A.length := by omega
    (refine W_at c9_ok ?_; refine ⟨_, rfl, ?_⟩; simp (disch := first | omega | assumption | rfl | (simp only [vcS] <;> omega) | fail) only [↓ptV_l, ↓vcA, vcB, ↓vcD, vcE, ↓reduceIte, Nat.reduceEqDiff, Nat.reduceAdd, Nat.reduceMul, Nat.reduceLeDiff, Int.reduceLE, Int.reduceLT, Int.reduceEq, Int.reduceToNat, Int.reduceAdd, Int.reduceSub, Int.reduceMul, Int.reduceNeg, reduceCtorEq, Option.bind_some, Option.map_some, List.length_cons, List.length_nil, vcM, List.getElem?_toArray, List.getElem?_cons_zero, List.getElem?_cons_succ, ho9])
    by_cases hk1 : k + 1 < (allR J).length
    · have hd : A.drop (layF ((allR J).take (k + 1))).length = frame1 (allR J)[k + 1] ++ (layF ((allR J).drop (k + 2)) ++ 0 :: rest) := by
        rw [layF_cut hA (by omega)]
        unfold layF
        rw [List.drop_eq_getElem_cons hk1, List.flatMap_cons, List.append_assoc]
      refine callV_ret (next_yes w9 va A _ _ _ ha9.1 hAb hil (by omega) hd (hsm _ (List.getElem_mem hk1))) ?_
      rintro _ w10 ⟨vb', rfl, hN⟩
      simp (disch := first | omega | assumption | rfl | (simp only [vcS] <;> omega) | fail) only [↓ptV_l, ↓vcA, vcB, ↓vcD, vcE, ↓reduceIte, Nat.reduceEqDiff, Nat.reduceAdd, Nat.reduceMul, Nat.reduceLeDiff, Int.reduceLE, Int.reduceLT, Int.reduceEq, Int.reduceToNat, Int.reduceAdd, Int.reduceSub, Int.reduceMul, Int.reduceNeg, reduceCtorEq, Option.bind_some, Option.map_some, List.length_cons, List.length_nil, vcM, List.getElem?_toArray, List.getElem?_cons_zero, List.getElem?_cons_succ]
      (refine W_at c9_ok ?_; refine ⟨_, rfl, ?_⟩; simp (disch := first | omega | assumption | rfl | (simp only [vcS] <;> omega) | fail) only [↓ptV_l, ↓vcA, vcB, ↓vcD, vcE, ↓reduceIte, Nat.reduceEqDiff, Nat.reduceAdd, Nat.reduceMul, Nat.reduceLeDiff, Int.reduceLE, Int.reduceLT, Int.reduceEq, Int.reduceToNat, Int.reduceAdd, Int.reduceSub, Int.reduceMul, Int.reduceNeg, reduceCtorEq, Option.bind_some, Option.map_some, List.length_cons, List.length_nil, vcM, List.getElem?_toArray, List.getElem?_cons_zero, List.getElem?_cons_succ])
      exact ih (k + 1) w10 vb' rv' true (by omega) (hE9.ext hN.ext) (ha9.ext hN.ext) (hj9.ext hN.ext) hrv' (hi9.ext hN.ext) (by rw [decide_eq_true hk1]) fun _ => ⟨ByT.own hN.own, fun g hg => Nat.le_trans hE9.size (hN.new g hg)⟩
    · have hd : A.drop (layF ((allR J).take (k + 1))).length = 0 :: rest := by
        rw [layF_cut hA (by omega), List.drop_of_length_le (by omega)]
        simp [layF]
      refine callV_ret (next_no w9 va A _ _ ha9.1 hAb hil (by omega) hd) ?_
      rintro _ w10 ⟨rfl, hN⟩
      simp (disch := first | omega | assumption | rfl | (simp only [vcS] <;> omega) | fail) only [↓ptV_l, ↓vcA, vcB, ↓vcD, vcE, ↓reduceIte, Nat.reduceEqDiff, Nat.reduceAdd, Nat.reduceMul, Nat.reduceLeDiff, Int.reduceLE, Int.reduceLT, Int.reduceEq, Int.reduceToNat, Int.reduceAdd, Int.reduceSub, Int.reduceMul, Int.reduceNeg, reduceCtorEq, Option.bind_some, Option.map_some, List.length_cons, List.length_nil, vcM, List.getElem?_toArray, List.getElem?_cons_zero, List.getElem?_cons_succ]
      (refine W_at c9_ok ?_; refine ⟨_, rfl, ?_⟩; simp (disch := first | omega | assumption | rfl | (simp only [vcS] <;> omega) | fail) only [↓ptV_l, ↓vcA, vcB, ↓vcD, vcE, ↓reduceIte, Nat.reduceEqDiff, Nat.reduceAdd, Nat.reduceMul, Nat.reduceLeDiff, Int.reduceLE, Int.reduceLT, Int.reduceEq, Int.reduceToNat, Int.reduceAdd, Int.reduceSub, Int.reduceMul, Int.reduceNeg, reduceCtorEq, Option.bind_some, Option.map_some, List.length_cons, List.length_nil, vcM, List.getElem?_toArray, List.getElem?_cons_zero, List.getElem?_cons_succ])
      exact ih (k + 1) w10 _ rv' false (by omega) (hE9.ext hN) (ha9.ext hN) (hj9.ext hN) hrv' (hi9.ext hN) (by rw [decide_eq_false hk1]) fun h => absurd h hk1
end Go.Proofs
