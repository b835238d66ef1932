/- SHA-256 piece by piece: 'Add'. -/
import Derived.Test.YthjgmajfkfhdaaaH5
set_option linter.unusedSimpArgs false
set_option linter.unusedVariables false
set_option linter.constructorNameAsVariable false
namespace Go.Proofs
open Go.Vc
set_option maxRecDepth 10000

def sumG (st : S8) (wv : Value) (n : Nat) (b : Bool) : Array Value := (st.list.map U32 ++ [wv, .int .u64 (n : Nat), .bool b]).toArray
theorem sumG_8 (st : S8) (wv : Value) (n : Nat) (b : Bool) : (sumG st wv n b)[8]? = some wv := rfl
theorem sumG_9 (st : S8) (wv : Value) (n : Nat) (b : Bool) : (sumG st wv n b)[9]? = some (.int .u64 (n : Nat)) := rfl
theorem sumG_10 (st : S8) (wv : Value) (n : Nat) (b : Bool) : (sumG st wv n b)[10]? = some (.bool b) := rfl
theorem sumG_size (st : S8) (wv : Value) (n : Nat) (b : Bool) : (sumG st wv n b).size = 11 := rfl
theorem sumG_set8 (st : S8) (wv v : Value) (n : Nat) (b : Bool) : (sumG st wv n b).setIfInBounds 8 v = sumG st v n b := rfl
theorem sumG_set9 (st : S8) (wv : Value) (n k : Nat) (b : Bool) : (sumG st wv n b).setIfInBounds 9 (.int .u64 (k : Nat)) = sumG st wv k b := rfl
theorem sumG_set10 (st : S8) (wv : Value) (n : Nat) (b c : Bool) : (sumG st wv n b).setIfInBounds 10 (.bool c) = sumG st wv n c := rfl
theorem sumG_put (st st' : S8) (wv : Value) (n : Nat) (b : Bool) : spliceA (sumG st wv n b) 0 (wcs st'.list) = sumG st' wv n b := rfl
theorem sumC_G (m : List Int) (b : Bool) (wv : Value) : sumC m b wv = sumG (stF m b) wv m.length b := rfl
/-- What writes to a sum may touch. -/
def SumB (g : Nat) (wv : Value) (x : Nat) : Prop := x = g ∨ blk wv x
set_option maxHeartbeats 1600000 in
theorem add_ok (w : World) (g : Nat) (wv x : Value) (m bs : List Int) (b : Bool) (h : SumAt w g wv m b) (hx : Rd w x bs) (hxb : bs ≠ [] → ∀ q n c, x = .slice (some q) n c → q.block ≠ g) (hbs : byt bs) (hm : byt m) (hl : m.length + bs.length ≤ 500000000) :
    Calls Try.prog 8 #[.pointer (some ⟨g, 0, none⟩), x] w (Ret fun _ w' => ∃ wv', SumAt w' g wv' (m ++ bs) true ∧ Keep (SumB g wv) w w' ∧ ∀ y, blk wv' y → blk wv y ∨ w.heap.size ≤ y) := by
  refine calls_of_cfg c8_ok (Nat.le_of_ble_eq_true rfl) ?_
  simp only [argE_nil, argE_cons, Nat.reduceAdd, Nat.zero_add]
  have ho := h.obj
  have hgl := lt_of_heap ho
  rw [sumC_G] at ho
  have hlen := hx.len
  have hwaitl : (waitL m).length ≤ 500000000 := by rw [waitL_len]; omega
  -- behind the first
  have cont : ∀ (w1 : World) (tl : Env), w1.heap[g]? = some (.cells (sumG (curS m) wv m.length true) 32 (0, 0)) → Keep (fun y => y = g) w w1 →
      W Try.prog (Ret fun _ w' => ∃ wv', SumAt w' g wv' (m ++ bs) true ∧ Keep (SumB g wv) w w' ∧ ∀ y, blk wv' y → blk wv y ∨ w.heap.size ≤ y) 8 8 ((0, .pointer (some ⟨g, 0, none⟩)) :: (1, x) :: tl) w1 := by
    intro w1 tl ho1 hk1
    have hw1 : IntKind.u64.wrap ((bs.length : Nat) : Int) = ((bs.length : Nat) : Int) := by rw [wrap_u64]; omega
    have hw2 : IntKind.u64.wrap (((m.length : Nat) : Int) + ((bs.length : Nat) : Int)) = (((m ++ bs).length : Nat) : Int) := by rw [wrap_u64, List.length_append]; omega
    have hwt1 := h.wait.keep hk1 fun y hy e => h.ne hy e
    have hx1 := hx.keep0 hk1 hxb
    (refine W_at c8_ok ?_; refine ⟨_, rfl, ?_⟩; simp (disch := first | omega | assumption | rfl | (simp only [vcS] <;> omega) | fail) only [↓ptV_l, ↓vcA, vcB, ↓vcD, vcE, ↓reduceIte, Nat.reduceEqDiff, Nat.reduceAdd, Nat.reduceMul, Nat.reduceLeDiff, Int.reduceLE, Int.reduceLT, Int.reduceEq, Int.reduceToNat, Int.reduceAdd, Int.reduceSub, Int.reduceMul, Int.reduceNeg, reduceCtorEq, Option.bind_some, Option.map_some, List.length_cons, List.length_nil, vcM, List.getElem?_toArray, List.getElem?_cons_zero, List.getElem?_cons_succ, ho1, sumG_9, hlen, hw1, hw2])
    refine ⟨wr1_of ho1 (by rw [sumG_size]; omega), ?_⟩
    have ho2 : (w1.setCell ⟨g, 9, none⟩ (.int .u64 ((m ++ bs).length : Nat))).heap[g]? = some (.cells (sumG (curS m) wv (m ++ bs).length true) 32 (0, 0)) := by rw [heap_setCell_eq ho1, sumG_set9]
    have k2 : Keep (fun y => y = g) w1 (w1.setCell ⟨g, 9, none⟩ (.int .u64 ((m ++ bs).length : Nat))) := (Keep.refl _ w1).setCell _ fun _ => rfl
    have hwt2 := hwt1.keep k2 fun y hy e => h.ne hy e
    have hx2 := hx1.keep0 k2 hxb
    have hk2 : Keep (fun y => y = g) w _ := hk1.trans k2 fun _ _ h => h
    generalize World.setCell _ _ _ = w2 at ho2 k2 hwt2 hx2 hk2 ⊢
    (refine W_at c8_ok ?_; refine ⟨_, rfl, ?_⟩; simp (disch := first | omega | assumption | rfl | (simp only [vcS] <;> omega) | fail) only [↓ptV_l, ↓vcA, vcB, ↓vcD, vcE, ↓reduceIte, Nat.reduceEqDiff, Nat.reduceAdd, Nat.reduceMul, Nat.reduceLeDiff, Int.reduceLE, Int.reduceLT, Int.reduceEq, Int.reduceToNat, Int.reduceAdd, Int.reduceSub, Int.reduceMul, Int.reduceNeg, reduceCtorEq, Option.bind_some, Option.map_some, List.length_cons, List.length_nil, vcM, List.getElem?_toArray, List.getElem?_cons_zero, List.getElem?_cons_succ, ho2, sumG_8])
    refine hwt2.app hx2 (by omega) fun wv3 w3 hwt3 hk3 hb3 => ?_
    have nwg : ¬ blk wv g := fun hb => h.ne hb rfl
    have ho3 := hk3.at ho2 nwg
    refine ⟨hwt3.rd.one, wr1_of ho3 (by rw [sumG_size]; omega), ?_⟩
    have ho4 : (w3.setCell ⟨g, 8, none⟩ wv3).heap[g]? = some (.cells (sumG (curS m) wv3 (m ++ bs).length true) 32 (0, 0)) := by rw [heap_setCell_eq ho3, sumG_set8]
    have k4 : Keep (fun y => y = g) w3 (w3.setCell ⟨g, 8, none⟩ wv3) := (Keep.refl _ w3).setCell _ fun _ => rfl
    have ng3 : ∀ y, blk wv3 y → ¬ y = g := fun y hy e => by
      obtain ⟨c, hc⟩ := hwt3.blk hy
      rw [e, ho3] at hc; cases hc
    have hwt4 := hwt3.keep k4 ng3
    have hK4 : Keep (SumB g wv) w _ := ((hk2.mono fun _ h => .inl h).trans hk3 fun _ _ h => .inr h).trans k4 fun _ _ h => .inl h
    have hb4 : ∀ y, blk wv3 y → blk wv y ∨ w.heap.size ≤ y := fun y hy => (hb3 y hy).elim .inl fun h => .inr (Nat.le_trans hk2.size h)
    generalize World.setCell _ _ _ = w4 at ho4 k4 hwt4 hK4 ⊢
    (refine W_at c8_ok ?_; refine ⟨_, rfl, ?_⟩; simp (disch := first | omega | assumption | rfl | (simp only [vcS] <;> omega) | fail) only [↓ptV_l, ↓vcA, vcB, ↓vcD, vcE, ↓reduceIte, Nat.reduceEqDiff, Nat.reduceAdd, Nat.reduceMul, Nat.reduceLeDiff, Int.reduceLE, Int.reduceLT, Int.reduceEq, Int.reduceToNat, Int.reduceAdd, Int.reduceSub, Int.reduceMul, Int.reduceNeg, reduceCtorEq, Option.bind_some, Option.map_some, List.length_cons, List.length_nil, vcM, List.getElem?_toArray, List.getElem?_cons_zero, List.getElem?_cons_succ])
    refine callV_ret (k256_ok w4) ?_
    rintro _ w5 ⟨rfl, hE5⟩
    have s64 : (wcs kL).size = 64 := by rw [wcs_size, kL_len]
    have z64 : (zc [(64, Value.int .u32 0)]).size = 64 := by simp [zc, runs]
    have hfl := wcs_flat kL
    simp (disch := first | omega | assumption | rfl | (simp only [vcS] <;> omega) | fail) only [↓ptV_l, ↓vcA, vcB, ↓vcD, vcE, ↓reduceIte, Nat.reduceEqDiff, Nat.reduceAdd, Nat.reduceMul, Nat.reduceLeDiff, Int.reduceLE, Int.reduceLT, Int.reduceEq, Int.reduceToNat, Int.reduceAdd, Int.reduceSub, Int.reduceMul, Int.reduceNeg, reduceCtorEq, Option.bind_some, Option.map_some, List.length_cons, List.length_nil, vcM, List.getElem?_toArray, List.getElem?_cons_zero, List.getElem?_cons_succ, s64]
    first | refine ⟨hfl, by rw [z64], ?_⟩ | refine ⟨hfl, ?_⟩ | skip
    have hp4 : ((w5.alloc (.cells (zc [(64, .int .u32 0)]) 60)).putN w5.heap.size 0 (wcs kL)).heap[w5.heap.size]? = some (.cells (wcs kL) 60 (0, 0)) := by
      rw [heap_putN_eq (heap_new _ _ _ rfl), splice_all (by rw [s64, z64])]
    have hE6 : Ext w5 ((w5.alloc (.cells (zc [(64, .int .u32 0)]) 60)).putN w5.heap.size 0 (wcs kL)) := ((Keep.refl _ w5).alloc _).putN _ (by intro hh; exfalso; omega)
    have ho5 := hE5.at ho4 (fun h => h)
    have hgl5 := lt_of_heap ho5
    generalize World.putN _ _ _ _ = w6 at hp4 hE6 ⊢
    generalize w5.heap.size = p4 at hp4 hgl5 ⊢
    have ho6 := hE6.at ho5 (fun h => h)
    have hwt6 := (hwt4.ext hE5).ext hE6
    have hK6 : Keep (SumB g wv) w w6 := (hK4.trans hE5 fun _ _ h => h.elim).trans hE6 fun _ _ h => h.elim
    generalize htot : m ++ bs = tot at ho6
    have htb : byt tot := by rw [← htot]; exact byt_app hm hbs
    have hcur : curS m = runN (fullN m) iv tot := by rw [← htot]; unfold curS; exact (runN_pre _ _ _ _ (by unfold fullN; omega)).symm
    have hwl : waitL m ++ bs = tot.drop (64 * fullN m) := by rw [← htot]; unfold waitL; rw [List.drop_append_of_le_length (by unfold fullN; omega)]
    have hle : fullN m ≤ fullN tot := by rw [← htot]; unfold fullN; rw [List.length_append]; omega
    rw [hcur] at ho6
    rw [hwl] at hwt6
    have hpg : p4 ≠ g := by omega
    have htl : tot.length ≤ 500000000 := by rw [← htot, List.length_append]; exact hl
    have L : ∀ (k j : Nat) (wj : World) (wvj : Value), j + k = fullN tot → wj.heap[g]? = some (.cells (sumG (runN j iv tot) wvj tot.length true) 32 (0, 0)) → ByO wj wvj (tot.drop (64 * j)) → wj.heap[p4]? = some (.cells (wcs kL) 60 (0, 0)) → Keep (SumB g wv) w wj → (∀ y, blk wvj y → blk wv y ∨ w.heap.size ≤ y) →
        W Try.prog (Ret fun _ w' => ∃ wv', SumAt w' g wv' tot true ∧ Keep (SumB g wv) w w' ∧ ∀ y, blk wv' y → blk wv y ∨ w.heap.size ≤ y) 8 5 [(0, .pointer (some ⟨g, 0, none⟩)), (4, .pointer (some ⟨p4, 0, none⟩))] wj := by
      intro k
      induction k with
      | zero =>
        intro j wj wvj hj hoj hwj h4 hK hB
        obtain rfl : j = fullN tot := by omega
        have hlw := hwj.rd.len
        have hno : ¬ (((tot.drop (64 * fullN tot)).length : Nat) : Int) ≥ 64 := by rw [List.length_drop]; unfold fullN; omega
        (refine W_at c8_ok ?_; refine ⟨_, rfl, ?_⟩; simp (disch := first | omega | assumption | rfl | (simp only [vcS] <;> omega) | fail) only [↓ptV_l, ↓vcA, vcB, ↓vcD, vcE, ↓reduceIte, Nat.reduceEqDiff, Nat.reduceAdd, Nat.reduceMul, Nat.reduceLeDiff, Int.reduceLE, Int.reduceLT, Int.reduceEq, Int.reduceToNat, Int.reduceAdd, Int.reduceSub, Int.reduceMul, Int.reduceNeg, reduceCtorEq, Option.bind_some, Option.map_some, List.length_cons, List.length_nil, vcM, List.getElem?_toArray, List.getElem?_cons_zero, List.getElem?_cons_succ, hoj, sumG_8, hlw, hno])
        (refine W_at c8_ok ?_; refine ⟨_, rfl, ?_⟩; simp (disch := first | omega | assumption | rfl | (simp only [vcS] <;> omega) | fail) only [↓ptV_l, ↓vcA, vcB, ↓vcD, vcE, ↓reduceIte, Nat.reduceEqDiff, Nat.reduceAdd, Nat.reduceMul, Nat.reduceLeDiff, Int.reduceLE, Int.reduceLT, Int.reduceEq, Int.reduceToNat, Int.reduceAdd, Int.reduceSub, Int.reduceMul, Int.reduceNeg, reduceCtorEq, Option.bind_some, Option.map_some, List.length_cons, List.length_nil, vcM, List.getElem?_toArray, List.getElem?_cons_zero, List.getElem?_cons_succ])
        (refine W_at c8_ok ?_; refine ⟨_, rfl, ?_⟩; simp (disch := first | omega | assumption | rfl | (simp only [vcS] <;> omega) | fail) only [↓ptV_l, ↓vcA, vcB, ↓vcD, vcE, ↓reduceIte, Nat.reduceEqDiff, Nat.reduceAdd, Nat.reduceMul, Nat.reduceLeDiff, Int.reduceLE, Int.reduceLT, Int.reduceEq, Int.reduceToNat, Int.reduceAdd, Int.reduceSub, Int.reduceMul, Int.reduceNeg, reduceCtorEq, Option.bind_some, Option.map_some, List.length_cons, List.length_nil, vcM, List.getElem?_toArray, List.getElem?_cons_zero, List.getElem?_cons_succ, Ret_returned])
        exact ⟨wvj, ⟨hoj, hwj, fun h => by cases h⟩, hK, hB⟩
      | succ k ih =>
        intro j wj wvj hj hoj hwj h4 hK hB
        have hlw := hwj.rd.len
        have hdl : 64 ≤ (tot.drop (64 * j)).length := by rw [List.length_drop]; unfold fullN at hj; omega
        have hyes : (((tot.drop (64 * j)).length : Nat) : Int) ≥ 64 := by omega
        obtain ⟨q, cc, e, hcc, hdrop⟩ := hwj.drop (l := 64) hdl
        have hcut := hwj.rd
        rw [e] at hcut
        have hcut := hcut.cut (l := 0) (j := 64) (by omega) hdl
        rw [advA_0, Nat.sub_zero, Nat.sub_zero, List.drop_zero] at hcut
        have ngj : ∀ y, blk wvj y → ¬ y = g := fun y hy e => by
          obtain ⟨c, hc⟩ := hwj.blk hy
          rw [e, hoj] at hc; cases hc
        have hqb : ∀ y, blk (.slice (advA 1 q cc 64) ((tot.drop (64 * j)).length - 64) (cc - 64)) y → blk wvj y := fun y hy => by
          rw [e]
          unfold advA at hy
          cases q with
          | none => split at hy <;> cases hy
          | some a =>
            split at hy
            · exact hy
            · skip
              have h8 : some (a.add (64 * 1)).block = some y := hy
              have h9 : (a.add (64 * 1)).block = a.block := by unfold Addr.add; split <;> rfl
              rw [h9] at h8
              exact h8
        have b64 : (64 : Int) ≤ ((cc : Nat) : Int) := by omega
        have b65 : (64 : Int) ≤ (((tot.drop (64 * j)).length : Nat) : Int) := by omega
        subst e
        (refine W_at c8_ok ?_; refine ⟨_, rfl, ?_⟩; simp (disch := first | omega | assumption | rfl | (simp only [vcS] <;> omega) | fail) only [↓ptV_l, ↓vcA, vcB, ↓vcD, vcE, ↓reduceIte, Nat.reduceEqDiff, Nat.reduceAdd, Nat.reduceMul, Nat.reduceLeDiff, Int.reduceLE, Int.reduceLT, Int.reduceEq, Int.reduceToNat, Int.reduceAdd, Int.reduceSub, Int.reduceMul, Int.reduceNeg, reduceCtorEq, Option.bind_some, Option.map_some, List.length_cons, List.length_nil, vcM, List.getElem?_toArray, List.getElem?_cons_zero, List.getElem?_cons_succ, hoj, sumG_8, hlw, hyes])
        (refine W_at c8_ok ?_; refine ⟨_, rfl, ?_⟩; simp (disch := first | omega | assumption | rfl | (simp only [vcS] <;> omega) | fail) only [↓ptV_l, ↓vcA, vcB, ↓vcD, vcE, ↓reduceIte, Nat.reduceEqDiff, Nat.reduceAdd, Nat.reduceMul, Nat.reduceLeDiff, Int.reduceLE, Int.reduceLT, Int.reduceEq, Int.reduceToNat, Int.reduceAdd, Int.reduceSub, Int.reduceMul, Int.reduceNeg, reduceCtorEq, Option.bind_some, Option.map_some, List.length_cons, List.length_nil, vcM, List.getElem?_toArray, List.getElem?_cons_zero, List.getElem?_cons_succ])
        (refine W_at c8_ok ?_; refine ⟨_, rfl, ?_⟩; simp (disch := first | omega | assumption | rfl | (simp only [vcS] <;> omega) | fail) only [↓ptV_l, ↓vcA, vcB, ↓vcD, vcE, ↓reduceIte, Nat.reduceEqDiff, Nat.reduceAdd, Nat.reduceMul, Nat.reduceLeDiff, Int.reduceLE, Int.reduceLT, Int.reduceEq, Int.reduceToNat, Int.reduceAdd, Int.reduceSub, Int.reduceMul, Int.reduceNeg, reduceCtorEq, Option.bind_some, Option.map_some, List.length_cons, List.length_nil, vcM, List.getElem?_toArray, List.getElem?_cons_zero, List.getElem?_cons_succ, hoj, sumG_8, b64, advA_0, Nat.sub_zero])
        have hEd : Ext wj wj.drew := (Keep.refl _ wj).drew
        have hod := hEd.at hoj (fun h => h)
        have h4d := hEd.at h4 (fun h => h)
        refine callV_ret (step_ok wj.drew g p4 _ _ (runN j iv tot) [.slice q (tot.drop (64 * j)).length cc, .int .u64 (tot.length : Nat), .bool true] 32 60 hod h4d hpg (hcut.ext hEd) (by rw [List.length_take]; omega) (byt_take (byt_drop htb _) _)) ?_
        rintro _ wa ⟨hoa, hka⟩
        rw [← runN_step] at hoa
        have hoa : wa.heap[g]? = some (.cells (sumG (runN (j + 1) iv tot) (.slice q (tot.drop (64 * j)).length cc) tot.length true) 32 (0, 0)) := hoa
        have hka' : Keep (fun y => y = g) wj wa := (hEd.mono fun _ h => h.elim).trans hka fun _ _ h => h
        have h4a := hka'.at h4 hpg
        have hdra := hdrop.keep hka' fun y hy => ngj y (hqb y hy)
        first | (simp (disch := first | omega | assumption | rfl | (simp only [vcS] <;> omega) | fail) only [↓ptV_l, ↓vcA, vcB, ↓vcD, vcE, ↓reduceIte, Nat.reduceEqDiff, Nat.reduceAdd, Nat.reduceMul, Nat.reduceLeDiff, Int.reduceLE, Int.reduceLT, Int.reduceEq, Int.reduceToNat, Int.reduceAdd, Int.reduceSub, Int.reduceMul, Int.reduceNeg, reduceCtorEq, Option.bind_some, Option.map_some, List.length_cons, List.length_nil, vcM, List.getElem?_toArray, List.getElem?_cons_zero, List.getElem?_cons_succ]) | skip
        (refine W_at c8_ok ?_; refine ⟨_, rfl, ?_⟩; simp (disch := first | omega | assumption | rfl | (simp only [vcS] <;> omega) | fail) only [↓ptV_l, ↓vcA, vcB, ↓vcD, vcE, ↓reduceIte, Nat.reduceEqDiff, Nat.reduceAdd, Nat.reduceMul, Nat.reduceLeDiff, Int.reduceLE, Int.reduceLT, Int.reduceEq, Int.reduceToNat, Int.reduceAdd, Int.reduceSub, Int.reduceMul, Int.reduceNeg, reduceCtorEq, Option.bind_some, Option.map_some, List.length_cons, List.length_nil, vcM, List.getElem?_toArray, List.getElem?_cons_zero, List.getElem?_cons_succ, hoa, sumG_8, b65])
        refine ⟨wr1_of hoa (by rw [sumG_size]; omega), ?_⟩
        have hob : (wa.setCell ⟨g, 8, none⟩ (.slice (advA 1 q cc 64) ((tot.drop (64 * j)).length - 64) (cc - 64))).heap[g]? = some (.cells (sumG (runN (j + 1) iv tot) (.slice (advA 1 q cc 64) ((tot.drop (64 * j)).length - 64) (cc - 64)) tot.length true) 32 (0, 0)) := by rw [heap_setCell_eq hoa, sumG_set8]
        have kb : Keep (fun y => y = g) wa (wa.setCell ⟨g, 8, none⟩ (.slice (advA 1 q cc 64) ((tot.drop (64 * j)).length - 64) (cc - 64))) := (Keep.refl _ wa).setCell _ fun _ => rfl
        generalize World.setCell _ _ _ = wb at hob kb ⊢
        have hkb : Keep (fun y => y = g) wj wb := hka'.trans kb fun _ _ h => h
        have hdrb := hdra.keep kb fun y hy => ngj y (hqb y hy)
        rw [List.drop_drop] at hdrb
        (refine W_at c8_ok ?_; refine ⟨_, rfl, ?_⟩; simp (disch := first | omega | assumption | rfl | (simp only [vcS] <;> omega) | fail) only [↓ptV_l, ↓vcA, vcB, ↓vcD, vcE, ↓reduceIte, Nat.reduceEqDiff, Nat.reduceAdd, Nat.reduceMul, Nat.reduceLeDiff, Int.reduceLE, Int.reduceLT, Int.reduceEq, Int.reduceToNat, Int.reduceAdd, Int.reduceSub, Int.reduceMul, Int.reduceNeg, reduceCtorEq, Option.bind_some, Option.map_some, List.length_cons, List.length_nil, vcM, List.getElem?_toArray, List.getElem?_cons_zero, List.getElem?_cons_succ])
        refine ih (j + 1) wb _ (by omega) hob (by rw [show 64 * (j + 1) = 64 * j + 64 by omega]; exact hdrb) (hkb.at h4 hpg) (hK.trans hkb fun _ _ h => .inl h) fun y hy => hB y (hqb y hy)
    exact L (fullN tot - fullN m) (fullN m) w6 wv3 (by omega) ho6 hwt6 hp4 hK6 hb4
  cases b with
  | true =>
    (refine W_at c8_ok ?_; refine ⟨_, rfl, ?_⟩; simp (disch := first | omega | assumption | rfl | (simp only [vcS] <;> omega) | fail) only [↓ptV_l, ↓vcA, vcB, ↓vcD, vcE, ↓reduceIte, Nat.reduceEqDiff, Nat.reduceAdd, Nat.reduceMul, Nat.reduceLeDiff, Int.reduceLE, Int.reduceLT, Int.reduceEq, Int.reduceToNat, Int.reduceAdd, Int.reduceSub, Int.reduceMul, Int.reduceNeg, reduceCtorEq, Option.bind_some, Option.map_some, List.length_cons, List.length_nil, vcM, List.getElem?_toArray, List.getElem?_cons_zero, List.getElem?_cons_succ, ho, sumG_10])
    (refine W_at c8_ok ?_; refine ⟨_, rfl, ?_⟩; simp (disch := first | omega | assumption | rfl | (simp only [vcS] <;> omega) | fail) only [↓ptV_l, ↓vcA, vcB, ↓vcD, vcE, ↓reduceIte, Nat.reduceEqDiff, Nat.reduceAdd, Nat.reduceMul, Nat.reduceLeDiff, Int.reduceLE, Int.reduceLT, Int.reduceEq, Int.reduceToNat, Int.reduceAdd, Int.reduceSub, Int.reduceMul, Int.reduceNeg, reduceCtorEq, Option.bind_some, Option.map_some, List.length_cons, List.length_nil, vcM, List.getElem?_toArray, List.getElem?_cons_zero, List.getElem?_cons_succ])
    exact cont w _ ho (Keep.refl _ w)
  | false =>
    obtain rfl := h.zero rfl
    (refine W_at c8_ok ?_; refine ⟨_, rfl, ?_⟩; simp (disch := first | omega | assumption | rfl | (simp only [vcS] <;> omega) | fail) only [↓ptV_l, ↓vcA, vcB, ↓vcD, vcE, ↓reduceIte, Nat.reduceEqDiff, Nat.reduceAdd, Nat.reduceMul, Nat.reduceLeDiff, Int.reduceLE, Int.reduceLT, Int.reduceEq, Int.reduceToNat, Int.reduceAdd, Int.reduceSub, Int.reduceMul, Int.reduceNeg, reduceCtorEq, Option.bind_some, Option.map_some, List.length_cons, List.length_nil, vcM, List.getElem?_toArray, List.getElem?_cons_zero, List.getElem?_cons_succ, ho, sumG_10])
    (refine W_at c8_ok ?_; refine ⟨_, rfl, ?_⟩; simp (disch := first | omega | assumption | rfl | (simp only [vcS] <;> omega) | fail) only [↓ptV_l, ↓vcA, vcB, ↓vcD, vcE, ↓reduceIte, Nat.reduceEqDiff, Nat.reduceAdd, Nat.reduceMul, Nat.reduceLeDiff, Int.reduceLE, Int.reduceLT, Int.reduceEq, Int.reduceToNat, Int.reduceAdd, Int.reduceSub, Int.reduceMul, Int.reduceNeg, reduceCtorEq, Option.bind_some, Option.map_some, List.length_cons, List.length_nil, vcM, List.getElem?_toArray, List.getElem?_cons_zero, List.getElem?_cons_succ])
    (refine W_at c8_ok ?_; refine ⟨_, rfl, ?_⟩; simp (disch := first | omega | assumption | rfl | (simp only [vcS] <;> omega) | fail) only [↓ptV_l, ↓vcA, vcB, ↓vcD, vcE, ↓reduceIte, Nat.reduceEqDiff, Nat.reduceAdd, Nat.reduceMul, Nat.reduceLeDiff, Int.reduceLE, Int.reduceLT, Int.reduceEq, Int.reduceToNat, Int.reduceAdd, Int.reduceSub, Int.reduceMul, Int.reduceNeg, reduceCtorEq, Option.bind_some, Option.map_some, List.length_cons, List.length_nil, vcM, List.getElem?_toArray, List.getElem?_cons_zero, List.getElem?_cons_succ])
    refine callV_ret (begin_ok w) ?_
    rintro _ w1 ⟨rfl, hE1⟩
    have ho1 := hE1.at ho (fun h => h)
    have s8 : (wcs iv.list).size = 8 := wcs_size _
    have hf8 := wcs_flat iv.list
    have hok : okO (some (.cells (sumG (stF [] false) wv ([] : List Int).length false) 32 (0, 0))) 0 8 = True := by simp [okO, sumG_size]
    simp (disch := first | omega | assumption | rfl | (simp only [vcS] <;> omega) | fail) only [↓ptV_l, ↓vcA, vcB, ↓vcD, vcE, ↓reduceIte, Nat.reduceEqDiff, Nat.reduceAdd, Nat.reduceMul, Nat.reduceLeDiff, Int.reduceLE, Int.reduceLT, Int.reduceEq, Int.reduceToNat, Int.reduceAdd, Int.reduceSub, Int.reduceMul, Int.reduceNeg, reduceCtorEq, Option.bind_some, Option.map_some, List.length_cons, List.length_nil, vcM, List.getElem?_toArray, List.getElem?_cons_zero, List.getElem?_cons_succ, s8, ho1, hok]
    have ho2 : (w1.putN g 0 (wcs iv.list)).heap[g]? = some (.cells (sumG iv wv 0 false) 32 (0, 0)) := by rw [heap_putN_eq ho1, sumG_put]; rfl
    have k2 : Keep (fun y => y = g) w1 (w1.putN g 0 (wcs iv.list)) := (Keep.refl _ w1).putN _ fun _ => rfl
    refine ⟨hf8, by rw [sumG_size]; omega, wr1_of ho2 (by rw [sumG_size]; omega), ?_⟩
    generalize World.putN _ _ _ _ = w2 at ho2 k2 ⊢
    have ho3 : (w2.setCell ⟨g, 10, none⟩ (.bool true)).heap[g]? = some (.cells (sumG iv wv 0 true) 32 (0, 0)) := by rw [heap_setCell_eq ho2, sumG_set10]
    have k3 : Keep (fun y => y = g) w1 (w2.setCell ⟨g, 10, none⟩ (.bool true)) := k2.setCell _ fun _ => rfl
    exact cont _ [] ho3 ((hE1.mono fun _ h => h.elim).trans k3 fun _ _ h => h)
end Go.Proofs
