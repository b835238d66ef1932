/- Spare room, and what was kept. -/
import Derived.Test.YtfackfekmadjbaaDM
set_option linter.unusedSimpArgs false
set_option linter.unusedVariables false
set_option linter.constructorNameAsVariable false
namespace Go.Proofs
open Go.Vc
set_option maxRecDepth 10000

/-- What lies in a block with spare room behind. -/
def tailF (n : Nat) : List Int := (List.range 9).map fun t => ((201 + (n + t : Nat) : Int) % 256)
def spareF (bs : List Int) : List Int := bs ++ tailF bs.length
theorem spareF_len (bs : List Int) : (spareF bs).length = bs.length + 9 := by simp [spareF, tailF]
theorem spareF_byt {bs : List Int} (h : byt bs) : byt (spareF bs) := by
  refine byt_app h fun x hx => ?_
  simp only [tailF, List.mem_map] at hx
  obtain ⟨t, _, rfl⟩ := hx
  omega
theorem spareF_at (bs : List Int) {i : Nat} (h : i < bs.length + 9) : (spareF bs)[i]? = some (if h : i < bs.length then bs[i] else (201 + (i : Int)) % 256) := by
  by_cases hi : i < bs.length
  · rw [dif_pos hi, spareF, List.getElem?_append_left hi, List.getElem?_eq_getElem hi]
  · rw [dif_neg hi, spareF, List.getElem?_append_right (by omega), tailF, List.getElem?_map, List.getElem?_range (by omega)]
    simp only [Option.map_some]
    congr 3; omega
theorem take_snoc {l : List Int} {i : Nat} (h : i < l.length) : l.take (i + 1) = l.take i ++ [l[i]] := by
  rw [List.take_add_one, List.getElem?_eq_getElem h]; rfl
theorem set_mid (a rest : List Int) (x y : Int) : (a ++ y :: rest).set a.length x = a ++ x :: rest := by simp
theorem Own1.set1 {w : World} {g n c : Nat} {bs : List Int} (h : Own1 w (.slice (some ⟨g, 0, none⟩) n c) bs) {i : Nat} (hi : i < bs.length) (x : Int) :
    wr1 w g i ∧ Own1 (w.setCell ⟨g, i, none⟩ (.int .u8 x)) (.slice (some ⟨g, 0, none⟩) n c) (bs.set i x) := by
  obtain ⟨g', c', e, h1, h2⟩ := h.set hi x
  injection e with e1 e2 e3
  cases e1
  exact ⟨h1, h2⟩
theorem mkB {w : World} {m : Nat} {K : Value → World → Prop} (hm : m ≤ 1000000000) (hk : ∀ w', Own1 w' (.slice (some ⟨w.heap.size, 0, none⟩) m m) (List.replicate m 0) → Ext w w' → K (.slice (some ⟨w.heap.size, 0, none⟩) m m) w') :
    mkSV 5 1 1 (runs [(1, Value.int .u8 0)]) (.int .i64 (m : Nat)) (.int .i64 (m : Nat)) w K := by
  refine ⟨by omega, by omega, by omega, by omega, rfl, ?_⟩
  have hml : maxLen = 9223372036854775807 := rfl
  rw [Int.toNat_natCast]
  refine hk _ ?_ ((Keep.refl _ w).alloc _)
  have h := own_lit1 (w := w) (bs := List.replicate m 0) (by simp; omega)
  have e1 : bv (List.replicate m 0) = zrep m (runs [(1, Value.int .u8 0)]) := by
    rw [show runs [(1, Value.int .u8 0)] = [Value.int .u8 0] from rfl, zrep_one, bv, List.map_replicate]
  rw [e1] at h
  simpa using h
set_option maxHeartbeats 800000 in
theorem spare_ok (w : World) (x : Value) (bs : List Int) (hx : Rd w x bs) (hb : byt bs) (hl : bs.length ≤ 1000000) :
    Calls Try.prog 11 #[x] w (Ret fun u w' => ∃ g, u = .tuple #[.slice (some ⟨g, 0, none⟩) bs.length (bs.length + 9), .slice (some ⟨g, 0, none⟩) (bs.length + 9) (bs.length + 9)] ∧ Own1 w' (.slice (some ⟨g, 0, none⟩) (bs.length + 9) (bs.length + 9)) (spareF bs) ∧ Ext w w' ∧ w.heap.size ≤ g) := by
  refine calls_of_cfg c11_ok (Nat.le_of_ble_eq_true rfl) ?_
  simp only [argE_nil, argE_cons, Nat.reduceAdd, Nat.zero_add]
  have hlen := hx.len
  have hw9 : IntKind.i64.wrap ((bs.length : Int) + 9) = ((bs.length + 9 : Nat) : Int) := by rw [wrap_i64 (by omega) (by omega)]; omega
  (refine W_at c11_ok ?_; refine ⟨_, rfl, ?_⟩; simp (disch := first | omega | assumption | rfl | (simp only [vcS] <;> omega) | fail) only [↓ptV_l, ↓vcA, vcB, ↓vcD, vcE, ↓reduceIte, Nat.reduceEqDiff, Nat.reduceAdd, Nat.reduceMul, Nat.reduceLeDiff, Int.reduceLE, Int.reduceLT, Int.reduceEq, Int.reduceToNat, Int.reduceAdd, Int.reduceSub, Int.reduceMul, Int.reduceNeg, reduceCtorEq, Option.bind_some, Option.map_some, List.length_cons, List.length_nil, vcM, List.getElem?_toArray, List.getElem?_cons_zero, List.getElem?_cons_succ])
  (refine W_at c11_ok ?_; refine ⟨_, rfl, ?_⟩; simp (disch := first | omega | assumption | rfl | (simp only [vcS] <;> omega) | fail) only [↓ptV_l, ↓vcA, vcB, ↓vcD, vcE, ↓reduceIte, Nat.reduceEqDiff, Nat.reduceAdd, Nat.reduceMul, Nat.reduceLeDiff, Int.reduceLE, Int.reduceLT, Int.reduceEq, Int.reduceToNat, Int.reduceAdd, Int.reduceSub, Int.reduceMul, Int.reduceNeg, reduceCtorEq, Option.bind_some, Option.map_some, List.length_cons, List.length_nil, vcM, List.getElem?_toArray, List.getElem?_cons_zero, List.getElem?_cons_succ, hlen, hw9])
  refine mkB (by omega) fun w1 hO hE => ?_
  generalize hg : w.heap.size = g at hO ⊢
  (refine W_at c11_ok ?_; refine ⟨_, rfl, ?_⟩; simp (disch := first | omega | assumption | rfl | (simp only [vcS] <;> omega) | fail) only [↓ptV_l, ↓vcA, vcB, ↓vcD, vcE, ↓reduceIte, Nat.reduceEqDiff, Nat.reduceAdd, Nat.reduceMul, Nat.reduceLeDiff, Int.reduceLE, Int.reduceLT, Int.reduceEq, Int.reduceToNat, Int.reduceAdd, Int.reduceSub, Int.reduceMul, Int.reduceNeg, reduceCtorEq, Option.bind_some, Option.map_some, List.length_cons, List.length_nil, vcM, List.getElem?_toArray, List.getElem?_cons_zero, List.getElem?_cons_succ])
  have L : ∀ (k i : Nat) (wj : World) (rest : List Int), k + i = bs.length + 9 → rest.length = k → Own1 wj (.slice (some ⟨g, 0, none⟩) (bs.length + 9) (bs.length + 9)) ((spareF bs).take i ++ rest) → Ext w wj →
      W Try.prog (Ret fun u w' => ∃ g', u = .tuple #[.slice (some ⟨g', 0, none⟩) bs.length (bs.length + 9), .slice (some ⟨g', 0, none⟩) (bs.length + 9) (bs.length + 9)] ∧ Own1 w' (.slice (some ⟨g', 0, none⟩) (bs.length + 9) (bs.length + 9)) (spareF bs) ∧ Ext w w' ∧ g ≤ g')
        11 10 [(0, x), (4, .slice (some ⟨g, 0, none⟩) (bs.length + 9) (bs.length + 9)), (5, .int .i64 i)] wj := by
    intro k
    have hfl := spareF_len bs
    induction k with
    | zero =>
      intro i wj rest hi hr hO hE
      have hlt : ¬ ((i : Int) < ((bs.length + 9 : Nat) : Int)) := by omega
      obtain rfl : rest = [] := List.eq_nil_of_length_eq_zero hr
      rw [List.append_nil, List.take_of_length_le (by omega)] at hO
      have hsl : 0 ≤ (bs.length : Int) ∧ (bs.length : Int) ≤ ((bs.length + 9 : Nat) : Int) := by omega
      (refine W_at c11_ok ?_; refine ⟨_, rfl, ?_⟩; simp (disch := first | omega | assumption | rfl | (simp only [vcS] <;> omega) | fail) only [↓ptV_l, ↓vcA, vcB, ↓vcD, vcE, ↓reduceIte, Nat.reduceEqDiff, Nat.reduceAdd, Nat.reduceMul, Nat.reduceLeDiff, Int.reduceLE, Int.reduceLT, Int.reduceEq, Int.reduceToNat, Int.reduceAdd, Int.reduceSub, Int.reduceMul, Int.reduceNeg, reduceCtorEq, Option.bind_some, Option.map_some, List.length_cons, List.length_nil, vcM, List.getElem?_toArray, List.getElem?_cons_zero, List.getElem?_cons_succ, hlt])
      (refine W_at c11_ok ?_; refine ⟨_, rfl, ?_⟩; simp (disch := first | omega | assumption | rfl | (simp only [vcS] <;> omega) | fail) only [↓ptV_l, ↓vcA, vcB, ↓vcD, vcE, ↓reduceIte, Nat.reduceEqDiff, Nat.reduceAdd, Nat.reduceMul, Nat.reduceLeDiff, Int.reduceLE, Int.reduceLT, Int.reduceEq, Int.reduceToNat, Int.reduceAdd, Int.reduceSub, Int.reduceMul, Int.reduceNeg, reduceCtorEq, Option.bind_some, Option.map_some, List.length_cons, List.length_nil, vcM, List.getElem?_toArray, List.getElem?_cons_zero, List.getElem?_cons_succ])
      (refine W_at c11_ok ?_; refine ⟨_, rfl, ?_⟩; simp (disch := first | omega | assumption | rfl | (simp only [vcS] <;> omega) | fail) only [↓ptV_l, ↓vcA, vcB, ↓vcD, vcE, ↓reduceIte, Nat.reduceEqDiff, Nat.reduceAdd, Nat.reduceMul, Nat.reduceLeDiff, Int.reduceLE, Int.reduceLT, Int.reduceEq, Int.reduceToNat, Int.reduceAdd, Int.reduceSub, Int.reduceMul, Int.reduceNeg, reduceCtorEq, Option.bind_some, Option.map_some, List.length_cons, List.length_nil, vcM, List.getElem?_toArray, List.getElem?_cons_zero, List.getElem?_cons_succ, hlen, hsl, Int.toNat_natCast])
      (refine W_at c11_ok ?_; refine ⟨_, rfl, ?_⟩; simp (disch := first | omega | assumption | rfl | (simp only [vcS] <;> omega) | fail) only [↓ptV_l, ↓vcA, vcB, ↓vcD, vcE, ↓reduceIte, Nat.reduceEqDiff, Nat.reduceAdd, Nat.reduceMul, Nat.reduceLeDiff, Int.reduceLE, Int.reduceLT, Int.reduceEq, Int.reduceToNat, Int.reduceAdd, Int.reduceSub, Int.reduceMul, Int.reduceNeg, reduceCtorEq, Option.bind_some, Option.map_some, List.length_cons, List.length_nil, vcM, List.getElem?_toArray, List.getElem?_cons_zero, List.getElem?_cons_succ, Ret_returned])
      exact ⟨g, rfl, hO, hE, Nat.le_refl _⟩
    | succ k ih =>
      intro i wj rest hi hr hO hE
      have hlt : (i : Int) < ((bs.length + 9 : Nat) : Int) := by omega
      have hi2 : 0 ≤ (i : Int) ∧ (i : Int) < ((bs.length + 9 : Nat) : Int) := by omega
      have hwi : IntKind.i64.wrap ((i : Int) + 1) = ((i + 1 : Nat) : Int) := wrap_i64 (by omega) (by omega)
      have hw2 : IntKind.i64.wrap (201 + (i : Int)) = 201 + (i : Int) := wrap_i64 (by omega) (by omega)
      have hw8 : IntKind.u8.wrap (201 + (i : Int)) = (201 + (i : Int)) % 256 := wrap_u8 _
      obtain ⟨y, rest, rfl⟩ : ∃ y r', rest = y :: r' := by
        cases rest with
        | nil => simp at hr
        | cons y r' => exact ⟨y, r', rfl⟩
      have htl : ((spareF bs).take i).length = i := by rw [List.length_take]; omega
      have hbl : ((spareF bs).take i ++ y :: rest).length = bs.length + 9 := by rw [List.length_append, htl, hr]; omega
      have hset : ∀ (wz : World) (y z : Int), Own1 wz (.slice (some ⟨g, 0, none⟩) (bs.length + 9) (bs.length + 9)) ((spareF bs).take i ++ y :: rest) → wr1 wz g i ∧ Own1 (wz.setCell ⟨g, i, none⟩ (.int .u8 z)) (.slice (some ⟨g, 0, none⟩) (bs.length + 9) (bs.length + 9)) ((spareF bs).take i ++ z :: rest) := by
        intro wz y z hO
        have hl2 : i < ((spareF bs).take i ++ y :: rest).length := by rw [List.length_append, htl, List.length_cons]; omega
        obtain ⟨h1, h2⟩ := hO.set1 hl2 z
        have := set_mid ((spareF bs).take i) rest z y
        rw [htl] at this
        rw [this] at h2
        exact ⟨h1, h2⟩
      have hend : ∀ (wz : World) (z : Int) (s : Env), (spareF bs)[i]? = some z → Own1 wz (.slice (some ⟨g, 0, none⟩) (bs.length + 9) (bs.length + 9)) ((spareF bs).take i ++ z :: rest) → Ext w wz →
          W Try.prog (Ret fun u w' => ∃ g', u = .tuple #[.slice (some ⟨g', 0, none⟩) bs.length (bs.length + 9), .slice (some ⟨g', 0, none⟩) (bs.length + 9) (bs.length + 9)] ∧ Own1 w' (.slice (some ⟨g', 0, none⟩) (bs.length + 9) (bs.length + 9)) (spareF bs) ∧ Ext w w' ∧ g ≤ g')
            11 4 ((0, x) :: (4, .slice (some ⟨g, 0, none⟩) (bs.length + 9) (bs.length + 9)) :: (5, .int .i64 i) :: s) wz := by
        intro wz z s hz hO hE
        have htk : (spareF bs).take (i + 1) = (spareF bs).take i ++ [z] := by
          rw [List.take_add_one, hz]; rfl
        (refine W_at c11_ok ?_; refine ⟨_, rfl, ?_⟩; simp (disch := first | omega | assumption | rfl | (simp only [vcS] <;> omega) | fail) only [↓ptV_l, ↓vcA, vcB, ↓vcD, vcE, ↓reduceIte, Nat.reduceEqDiff, Nat.reduceAdd, Nat.reduceMul, Nat.reduceLeDiff, Int.reduceLE, Int.reduceLT, Int.reduceEq, Int.reduceToNat, Int.reduceAdd, Int.reduceSub, Int.reduceMul, Int.reduceNeg, reduceCtorEq, Option.bind_some, Option.map_some, List.length_cons, List.length_nil, vcM, List.getElem?_toArray, List.getElem?_cons_zero, List.getElem?_cons_succ, hwi])
        (refine W_at c11_ok ?_; refine ⟨_, rfl, ?_⟩; simp (disch := first | omega | assumption | rfl | (simp only [vcS] <;> omega) | fail) only [↓ptV_l, ↓vcA, vcB, ↓vcD, vcE, ↓reduceIte, Nat.reduceEqDiff, Nat.reduceAdd, Nat.reduceMul, Nat.reduceLeDiff, Int.reduceLE, Int.reduceLT, Int.reduceEq, Int.reduceToNat, Int.reduceAdd, Int.reduceSub, Int.reduceMul, Int.reduceNeg, reduceCtorEq, Option.bind_some, Option.map_some, List.length_cons, List.length_nil, vcM, List.getElem?_toArray, List.getElem?_cons_zero, List.getElem?_cons_succ])
        exact ih (i + 1) wz rest (by omega) (by rw [List.length_cons] at hr; omega) (by rw [htk, List.append_assoc]; exact hO) hE
      have hs1 := hset wj y ((201 + (i : Int)) % 256) hO
      (refine W_at c11_ok ?_; refine ⟨_, rfl, ?_⟩; simp (disch := first | omega | assumption | rfl | (simp only [vcS] <;> omega) | fail) only [↓ptV_l, ↓vcA, vcB, ↓vcD, vcE, ↓reduceIte, Nat.reduceEqDiff, Nat.reduceAdd, Nat.reduceMul, Nat.reduceLeDiff, Int.reduceLE, Int.reduceLT, Int.reduceEq, Int.reduceToNat, Int.reduceAdd, Int.reduceSub, Int.reduceMul, Int.reduceNeg, reduceCtorEq, Option.bind_some, Option.map_some, List.length_cons, List.length_nil, vcM, List.getElem?_toArray, List.getElem?_cons_zero, List.getElem?_cons_succ, hlt])
      (refine W_at c11_ok ?_; refine ⟨_, rfl, ?_⟩; simp (disch := first | omega | assumption | rfl | (simp only [vcS] <;> omega) | fail) only [↓ptV_l, ↓vcA, vcB, ↓vcD, vcE, ↓reduceIte, Nat.reduceEqDiff, Nat.reduceAdd, Nat.reduceMul, Nat.reduceLeDiff, Int.reduceLE, Int.reduceLT, Int.reduceEq, Int.reduceToNat, Int.reduceAdd, Int.reduceSub, Int.reduceMul, Int.reduceNeg, reduceCtorEq, Option.bind_some, Option.map_some, List.length_cons, List.length_nil, vcM, List.getElem?_toArray, List.getElem?_cons_zero, List.getElem?_cons_succ])
      (refine W_at c11_ok ?_; refine ⟨_, rfl, ?_⟩; simp (disch := first | omega | assumption | rfl | (simp only [vcS] <;> omega) | fail) only [↓ptV_l, ↓vcA, vcB, ↓vcD, vcE, ↓reduceIte, Nat.reduceEqDiff, Nat.reduceAdd, Nat.reduceMul, Nat.reduceLeDiff, Int.reduceLE, Int.reduceLT, Int.reduceEq, Int.reduceToNat, Int.reduceAdd, Int.reduceSub, Int.reduceMul, Int.reduceNeg, reduceCtorEq, Option.bind_some, Option.map_some, List.length_cons, List.length_nil, vcM, List.getElem?_toArray, List.getElem?_cons_zero, List.getElem?_cons_succ, hi2, Int.toNat_natCast, Nat.mul_one, Nat.zero_add, hw2, hw8])
      refine ⟨hs1.1, ?_⟩
      have hE1 : Ext w (wj.setCell ⟨g, i, none⟩ (.int .u8 ((201 + (i : Int)) % 256))) := hE.setCell _ (by omega)
      have hO1 := hs1.2
      generalize World.setCell _ _ _ = w2 at hE1 hO1 ⊢
      have hat := spareF_at bs (i := i) (by omega)
      (refine W_at c11_ok ?_; refine ⟨_, rfl, ?_⟩; simp (disch := first | omega | assumption | rfl | (simp only [vcS] <;> omega) | fail) only [↓ptV_l, ↓vcA, vcB, ↓vcD, vcE, ↓reduceIte, Nat.reduceEqDiff, Nat.reduceAdd, Nat.reduceMul, Nat.reduceLeDiff, Int.reduceLE, Int.reduceLT, Int.reduceEq, Int.reduceToNat, Int.reduceAdd, Int.reduceSub, Int.reduceMul, Int.reduceNeg, reduceCtorEq, Option.bind_some, Option.map_some, List.length_cons, List.length_nil, vcM, List.getElem?_toArray, List.getElem?_cons_zero, List.getElem?_cons_succ, hlen])
      by_cases hin : i < bs.length
      · have hin' : (i : Int) < bs.length := by omega
        rw [dif_pos hin] at hat
        have hi3 : 0 ≤ (i : Int) ∧ (i : Int) < bs.length := by omega
        obtain ⟨b, o, c, rfl, hcell⟩ := (hx.ext hE1).at hin
        have hs2 := hset w2 _ bs[i] hO1
        (refine W_at c11_ok ?_; refine ⟨_, rfl, ?_⟩; simp (disch := first | omega | assumption | rfl | (simp only [vcS] <;> omega) | fail) only [↓ptV_l, ↓vcA, vcB, ↓vcD, vcE, ↓reduceIte, Nat.reduceEqDiff, Nat.reduceAdd, Nat.reduceMul, Nat.reduceLeDiff, Int.reduceLE, Int.reduceLT, Int.reduceEq, Int.reduceToNat, Int.reduceAdd, Int.reduceSub, Int.reduceMul, Int.reduceNeg, reduceCtorEq, Option.bind_some, Option.map_some, List.length_cons, List.length_nil, vcM, List.getElem?_toArray, List.getElem?_cons_zero, List.getElem?_cons_succ, hin'])
        (refine W_at c11_ok ?_; refine ⟨_, rfl, ?_⟩; simp (disch := first | omega | assumption | rfl | (simp only [vcS] <;> omega) | fail) only [↓ptV_l, ↓vcA, vcB, ↓vcD, vcE, ↓reduceIte, Nat.reduceEqDiff, Nat.reduceAdd, Nat.reduceMul, Nat.reduceLeDiff, Int.reduceLE, Int.reduceLT, Int.reduceEq, Int.reduceToNat, Int.reduceAdd, Int.reduceSub, Int.reduceMul, Int.reduceNeg, reduceCtorEq, Option.bind_some, Option.map_some, List.length_cons, List.length_nil, vcM, List.getElem?_toArray, List.getElem?_cons_zero, List.getElem?_cons_succ, hi2, hi3, Int.toNat_natCast, Nat.mul_one, Nat.zero_add, hcell])
        exact ⟨hs2.1, hend _ bs[i] _ hat hs2.2 (hE1.setCell _ (by omega))⟩
      · have hin' : ¬ (i : Int) < bs.length := by omega
        rw [dif_neg hin] at hat
        (refine W_at c11_ok ?_; refine ⟨_, rfl, ?_⟩; simp (disch := first | omega | assumption | rfl | (simp only [vcS] <;> omega) | fail) only [↓ptV_l, ↓vcA, vcB, ↓vcD, vcE, ↓reduceIte, Nat.reduceEqDiff, Nat.reduceAdd, Nat.reduceMul, Nat.reduceLeDiff, Int.reduceLE, Int.reduceLT, Int.reduceEq, Int.reduceToNat, Int.reduceAdd, Int.reduceSub, Int.reduceMul, Int.reduceNeg, reduceCtorEq, Option.bind_some, Option.map_some, List.length_cons, List.length_nil, vcM, List.getElem?_toArray, List.getElem?_cons_zero, List.getElem?_cons_succ, hin'])
        exact hend _ _ _ hat hO1 hE1
  exact L (bs.length + 9) 0 w1 (List.replicate (bs.length + 9) 0) (by omega) (by simp) hO hE
end Go.Proofs
