/- A digest's text, and back. -/
import Derived.Test.YthjgmajfkfhdaaaH8
import Derived.Test.YthjgmajfkfhdaaaT2
import Derived.Test.YthjgmajfkfhdaaaIt
set_option linter.unusedSimpArgs false
set_option linter.unusedVariables false
set_option linter.constructorNameAsVariable false
namespace Go.Proofs
open Go.Vc Go.RowKit
set_option maxRecDepth 10000

def bkL (k j : Nat) : List (Fin k) := (List.finRange k).reverse.take j
theorem bkL_len {k j : Nat} (h : j ≤ k) : (bkL k j).length = j := by simp [bkL]; omega
theorem bkL_succ {k j : Nat} (h : j < k) : bkL k (j + 1) = bkL k j ++ [⟨k - 1 - j, by omega⟩] := by
  unfold bkL
  rw [List.take_add_one, List.getElem?_eq_getElem (by simpa using h)]
  simp
theorem bv_cell {bs : List Int} {i : Nat} (hi : i < bs.length) (T : TypeId) : cellO (some (.cells (bv bs).toArray T (0, 0))) i = some (.int .u8 bs[i]) := by
  rw [cellO_some]
  simp [bv, List.getElem?_eq_getElem hi]
set_option maxHeartbeats 1600000 in
theorem back_stops (w0 : World) (b1 p : Nat) (bs : List Int) (T1 T2 : TypeId) (h1 : w0.heap[b1]? = some (.cells #[.slice (some ⟨p, 0, none⟩) bs.length bs.length] T1 (0, 0))) (hq : w0.heap[p]? = some (.cells (bv bs).toArray T2 (0, 0))) (hl : bs.length ≤ 1000000) :
    SeqStopsK (fen none) 2 Try.prog 49 #[.pointer (some ⟨b1, 0, none⟩)] (fun i : Fin bs.length => #[.int .i64 (i.val : Nat), .int .u8 bs[i.val]]) (KpB [b1, p])
      (fun xs => xs = (List.finRange bs.length).reverse) (fun pre => ∃ j, pre = bkL bs.length j) bs.length w0 := by
  intro l J Jx W hW hJ hJx hY h0
  refine callsIn_of_ct t49_ok (Nat.le_of_ble_eq_true rfl) ?_
  simp only [List.toList_toArray, Array.toList_append, List.cons_append, List.nil_append]
  simp only [argE_nil, argE_cons, Nat.reduceAdd, Nat.zero_add]
  have m1 := (hW.block b1 (Array.getElem?_eq_some_iff.1 h1).1).trans h1
  have q1 := (hW.block p (Array.getElem?_eq_some_iff.1 hq).1).trans hq
  have hlen : lenR (.slice (some ⟨p, 0, none⟩) bs.length bs.length) = some (.int .i64 (bs.length : Nat)) := rfl
  have hws : IntKind.i64.wrap ((bs.length : Int) - 1) = (bs.length : Int) - 1 := wrap_i64 (by omega) (by omega)
  simp (disch := first | omega | assumption | rfl | (simp only [vcS] <;> omega) | fail) only [t49, ↓vcC, slc3_s, ↓ptV_l, ↓vcA, vcB, ↓vcD, vcE, ↓reduceIte, Nat.reduceEqDiff, Nat.reduceAdd, Nat.reduceMul, Nat.reduceLeDiff, Int.reduceLE, Int.reduceLT, Int.reduceEq, Int.reduceToNat, Int.reduceAdd, Int.reduceSub, Int.reduceMul, Int.reduceNeg, reduceCtorEq, Option.bind_some, Option.map_some, List.length_cons, List.length_nil, vcM, List.getElem?_toArray, List.getElem?_cons_zero, List.getElem?_cons_succ, m1, hlen, hws]
  (refine nx_at ?_; simp (disch := first | omega | assumption | rfl | (simp only [vcS] <;> omega) | fail) only [↓vcC, slc3_s, ↓ptV_l, ↓vcA, vcB, ↓vcD, vcE, ↓reduceIte, Nat.reduceEqDiff, Nat.reduceAdd, Nat.reduceMul, Nat.reduceLeDiff, Int.reduceLE, Int.reduceLT, Int.reduceEq, Int.reduceToNat, Int.reduceAdd, Int.reduceSub, Int.reduceMul, Int.reduceNeg, reduceCtorEq, Option.bind_some, Option.map_some, List.length_cons, List.length_nil, vcM, List.getElem?_toArray, List.getElem?_cons_zero, List.getElem?_cons_succ])
  refine lp_of (fun j ds e W => ds = [] ∧ ∃ i, i + j = bs.length ∧ Vc.look e 3 = some (.int .i64 ((bs.length : Int) - 1 - (i : Nat))) ∧ Vc.look e 0 = some (.func (.yield l) #[] #[]) ∧ Vc.look e 1 = some (.pointer (some ⟨b1, 0, none⟩)) ∧
    J (bkL bs.length i) W ∧ W.heap[b1]? = some (.cells #[.slice (some ⟨p, 0, none⟩) bs.length bs.length] T1 (0, 0)) ∧ W.heap[p]? = some (.cells (bv bs).toArray T2 (0, 0))) bs.length ?_ ?_
  · exact ⟨rfl, 0, by omega, by simp [Vc.look], rfl, rfl, h0, m1, q1⟩
  clear h0 m1 hW q1
  generalize W.heap.size = B at hJ hJx
  clear W
  rintro j ds e W ⟨rfl, i, hi, l3, l0, l1, hJi, m1, q1⟩
  by_cases hik : i < bs.length
  · have c1 : 0 ≤ (bs.length : Int) - 1 - (i : Nat) := by omega
    simp (disch := first | omega | assumption | rfl | (simp only [vcS] <;> omega) | fail) only [↓vcC, slc3_s, ↓ptV_l, ↓vcA, vcB, ↓vcD, vcE, ↓reduceIte, Nat.reduceEqDiff, Nat.reduceAdd, Nat.reduceMul, Nat.reduceLeDiff, Int.reduceLE, Int.reduceLT, Int.reduceEq, Int.reduceToNat, Int.reduceAdd, Int.reduceSub, Int.reduceMul, Int.reduceNeg, reduceCtorEq, Option.bind_some, Option.map_some, List.length_cons, List.length_nil, vcM, List.getElem?_toArray, List.getElem?_cons_zero, List.getElem?_cons_succ, l3, c1]
    (refine nx_at ?_; simp (disch := first | omega | assumption | rfl | (simp only [vcS] <;> omega) | fail) only [↓vcC, slc3_s, ↓ptV_l, ↓vcA, vcB, ↓vcD, vcE, ↓reduceIte, Nat.reduceEqDiff, Nat.reduceAdd, Nat.reduceMul, Nat.reduceLeDiff, Int.reduceLE, Int.reduceLT, Int.reduceEq, Int.reduceToNat, Int.reduceAdd, Int.reduceSub, Int.reduceMul, Int.reduceNeg, reduceCtorEq, Option.bind_some, Option.map_some, List.length_cons, List.length_nil, vcM, List.getElem?_toArray, List.getElem?_cons_zero, List.getElem?_cons_succ])
    have hcell := bv_cell (bs := bs) (i := bs.length - 1 - i) (by omega) T2
    have c2 : (bs.length : Int) - 1 - (i : Nat) = ((bs.length - 1 - i : Nat) : Int) := by omega
    rw [c2] at l3 c1
    have c3 : 0 ≤ ((bs.length - 1 - i : Nat) : Int) ∧ ((bs.length - 1 - i : Nat) : Int) < (bs.length : Nat) := by omega
    (refine nx_at ?_; simp (disch := first | omega | assumption | rfl | (simp only [vcS] <;> omega) | fail) only [↓vcC, slc3_s, ↓ptV_l, ↓vcA, vcB, ↓vcD, vcE, ↓reduceIte, Nat.reduceEqDiff, Nat.reduceAdd, Nat.reduceMul, Nat.reduceLeDiff, Int.reduceLE, Int.reduceLT, Int.reduceEq, Int.reduceToNat, Int.reduceAdd, Int.reduceSub, Int.reduceMul, Int.reduceNeg, reduceCtorEq, Option.bind_some, Option.map_some, List.length_cons, List.length_nil, vcM, List.getElem?_toArray, List.getElem?_cons_zero, List.getElem?_cons_succ, l3, l0, l1, m1, c3, Int.toNat_natCast, Nat.mul_one, Nat.zero_add, q1, hcell])
    refine yv_of (hY (bkL bs.length i) ⟨bs.length - 1 - i, by omega⟩ W hJi (by rw [bkL_len (by omega)]; exact hik)) ?_
    rintro en W2 (⟨rfl, hJ2, hB2⟩ | ⟨rfl, hJx2⟩)
    · refine ⟨_, rfl, ?_⟩
      have m1' := (hB2 b1 (by simp)).trans m1
      have q2 := (hB2 p (by simp)).trans q1
      have c4 : IntKind.i64.wrap (((bs.length - 1 - i : Nat) : Int) - 1) = (bs.length : Int) - 1 - ((i + 1 : Nat)) := by rw [wrap_i64 (by omega) (by omega)]; omega
      simp (disch := first | omega | assumption | rfl | (simp only [vcS] <;> omega) | fail) only [↓vcC, slc3_s, ↓ptV_l, ↓vcA, vcB, ↓vcD, vcE, ↓reduceIte, Nat.reduceEqDiff, Nat.reduceAdd, Nat.reduceMul, Nat.reduceLeDiff, Int.reduceLE, Int.reduceLT, Int.reduceEq, Int.reduceToNat, Int.reduceAdd, Int.reduceSub, Int.reduceMul, Int.reduceNeg, reduceCtorEq, Option.bind_some, Option.map_some, List.length_cons, List.length_nil, vcM, List.getElem?_toArray, List.getElem?_cons_zero, List.getElem?_cons_succ]
      (refine nx_at ?_; simp (disch := first | omega | assumption | rfl | (simp only [vcS] <;> omega) | fail) only [↓vcC, slc3_s, ↓ptV_l, ↓vcA, vcB, ↓vcD, vcE, ↓reduceIte, Nat.reduceEqDiff, Nat.reduceAdd, Nat.reduceMul, Nat.reduceLeDiff, Int.reduceLE, Int.reduceLT, Int.reduceEq, Int.reduceToNat, Int.reduceAdd, Int.reduceSub, Int.reduceMul, Int.reduceNeg, reduceCtorEq, Option.bind_some, Option.map_some, List.length_cons, List.length_nil, vcM, List.getElem?_toArray, List.getElem?_cons_zero, List.getElem?_cons_succ])
      (refine nx_at ?_; simp (disch := first | omega | assumption | rfl | (simp only [vcS] <;> omega) | fail) only [↓vcC, slc3_s, ↓ptV_l, ↓vcA, vcB, ↓vcD, vcE, ↓reduceIte, Nat.reduceEqDiff, Nat.reduceAdd, Nat.reduceMul, Nat.reduceLeDiff, Int.reduceLE, Int.reduceLT, Int.reduceEq, Int.reduceToNat, Int.reduceAdd, Int.reduceSub, Int.reduceMul, Int.reduceNeg, reduceCtorEq, Option.bind_some, Option.map_some, List.length_cons, List.length_nil, vcM, List.getElem?_toArray, List.getElem?_cons_zero, List.getElem?_cons_succ, l3, l1, m1', c4])
      refine ⟨j - 1, by omega, i + 1, by omega, rfl, l0, by rw [bkL_succ hik]; exact hJ2, q2⟩
    · refine ⟨_, rfl, ?_⟩
      simp (disch := first | omega | assumption | rfl | (simp only [vcS] <;> omega) | fail) only [↓vcC, slc3_s, ↓ptV_l, ↓vcA, vcB, ↓vcD, vcE, ↓reduceIte, Nat.reduceEqDiff, Nat.reduceAdd, Nat.reduceMul, Nat.reduceLeDiff, Int.reduceLE, Int.reduceLT, Int.reduceEq, Int.reduceToNat, Int.reduceAdd, Int.reduceSub, Int.reduceMul, Int.reduceNeg, reduceCtorEq, Option.bind_some, Option.map_some, List.length_cons, List.length_nil, vcM, List.getElem?_toArray, List.getElem?_cons_zero, List.getElem?_cons_succ]
      (refine nx_at ?_; simp (disch := first | omega | assumption | rfl | (simp only [vcS] <;> omega) | fail) only [↓vcC, slc3_s, ↓ptV_l, ↓vcA, vcB, ↓vcD, vcE, ↓reduceIte, Nat.reduceEqDiff, Nat.reduceAdd, Nat.reduceMul, Nat.reduceLeDiff, Int.reduceLE, Int.reduceLT, Int.reduceEq, Int.reduceToNat, Int.reduceAdd, Int.reduceSub, Int.reduceMul, Int.reduceNeg, reduceCtorEq, Option.bind_some, Option.map_some, List.length_cons, List.length_nil, vcM, List.getElem?_toArray, List.getElem?_cons_zero, List.getElem?_cons_succ])
      exact ⟨⟨_, rfl⟩, .inr ⟨_, ⟨i + 1, (bkL_succ hik).symm⟩, hJx2⟩⟩
  · obtain rfl : i = bs.length := by omega
    have c1 : ¬ 0 ≤ (bs.length : Int) - 1 - (bs.length : Nat) := by omega
    simp (disch := first | omega | assumption | rfl | (simp only [vcS] <;> omega) | fail) only [↓vcC, slc3_s, ↓ptV_l, ↓vcA, vcB, ↓vcD, vcE, ↓reduceIte, Nat.reduceEqDiff, Nat.reduceAdd, Nat.reduceMul, Nat.reduceLeDiff, Int.reduceLE, Int.reduceLT, Int.reduceEq, Int.reduceToNat, Int.reduceAdd, Int.reduceSub, Int.reduceMul, Int.reduceNeg, reduceCtorEq, Option.bind_some, Option.map_some, List.length_cons, List.length_nil, vcM, List.getElem?_toArray, List.getElem?_cons_zero, List.getElem?_cons_succ, l3, c1]
    (refine nx_at ?_; simp (disch := first | omega | assumption | rfl | (simp only [vcS] <;> omega) | fail) only [↓vcC, slc3_s, ↓ptV_l, ↓vcA, vcB, ↓vcD, vcE, ↓reduceIte, Nat.reduceEqDiff, Nat.reduceAdd, Nat.reduceMul, Nat.reduceLeDiff, Int.reduceLE, Int.reduceLT, Int.reduceEq, Int.reduceToNat, Int.reduceAdd, Int.reduceSub, Int.reduceMul, Int.reduceNeg, reduceCtorEq, Option.bind_some, Option.map_some, List.length_cons, List.length_nil, vcM, List.getElem?_toArray, List.getElem?_cons_zero, List.getElem?_cons_succ])
    refine ⟨⟨_, rfl⟩, .inl ⟨_, rfl, ?_⟩⟩
    unfold bkL at hJi
    rwa [List.take_of_length_le (by simp)] at hJi
theorem back_ok (w : World) (x : Value) (hx : x.cells = #[x]) :
    Calls Try.prog 35 #[x] w (Ret fun u w' => ∃ b1 T1, u = .func (.func 49) #[] #[.pointer (some ⟨b1, 0, none⟩)] ∧
      w'.heap[b1]? = some (.cells #[x] T1 (0, 0)) ∧ Ext w w' ∧ b1 < w'.heap.size ∧ w.heap.size ≤ b1) := by
  refine calls_of_cfg c35_ok (Nat.le_of_ble_eq_true rfl) ?_
  simp only [argE_nil, argE_cons, Nat.reduceAdd, Nat.zero_add]
  (refine W_at c35_ok ?_; refine ⟨_, rfl, ?_⟩; simp (disch := first | omega | assumption | rfl | (simp only [vcS] <;> omega) | fail) only [↓ptV_l, ↓vcA, vcB, ↓vcD, vcE, ↓reduceIte, Nat.reduceEqDiff, Nat.reduceAdd, Nat.reduceMul, Nat.reduceLeDiff, Int.reduceLE, Int.reduceLT, Int.reduceEq, Int.reduceToNat, Int.reduceAdd, Int.reduceSub, Int.reduceMul, Int.reduceNeg, reduceCtorEq, Option.bind_some, Option.map_some, List.length_cons, List.length_nil, vcM, List.getElem?_toArray, List.getElem?_cons_zero, List.getElem?_cons_succ, hx])
  (refine W_at c35_ok ?_; refine ⟨_, rfl, ?_⟩; simp (disch := first | omega | assumption | rfl | (simp only [vcS] <;> omega) | fail) only [↓ptV_l, ↓vcA, vcB, ↓vcD, vcE, ↓reduceIte, Nat.reduceEqDiff, Nat.reduceAdd, Nat.reduceMul, Nat.reduceLeDiff, Int.reduceLE, Int.reduceLT, Int.reduceEq, Int.reduceToNat, Int.reduceAdd, Int.reduceSub, Int.reduceMul, Int.reduceNeg, reduceCtorEq, Option.bind_some, Option.map_some, List.length_cons, List.length_nil, vcM, List.getElem?_toArray, List.getElem?_cons_zero, List.getElem?_cons_succ])
  (refine W_at c35_ok ?_; refine ⟨_, rfl, ?_⟩; simp (disch := first | omega | assumption | rfl | (simp only [vcS] <;> omega) | fail) only [↓ptV_l, ↓vcA, vcB, ↓vcD, vcE, ↓reduceIte, Nat.reduceEqDiff, Nat.reduceAdd, Nat.reduceMul, Nat.reduceLeDiff, Int.reduceLE, Int.reduceLT, Int.reduceEq, Int.reduceToNat, Int.reduceAdd, Int.reduceSub, Int.reduceMul, Int.reduceNeg, reduceCtorEq, Option.bind_some, Option.map_some, List.length_cons, List.length_nil, vcM, List.getElem?_toArray, List.getElem?_cons_zero, List.getElem?_cons_succ, Ret_returned])
  exact ⟨_, _, rfl, heap_new _ _ _ rfl, (Keep.refl _ w).alloc _, by omega, Nat.le_refl _⟩
theorem keepsFrom_of {S : Nat → Prop} {B : Nat} {w w' : World} (h : Keep S w w') (hS : ∀ k, S k → ∀ o, w.heap[k]? = some o → o.isCells = true) : KeepsFrom B w w' := by
  refine ⟨h.size, fun k o _ hk ho => ?_⟩
  have hs : ¬ S k := fun hs => by rw [hS k hs o hk] at ho; cases ho
  exact (h.block k (Array.getElem?_eq_some_iff.1 hk).1 hs).trans hk
theorem Keep.below {S : Nat → Prop} {B : Nat} {w w' : World} (h : Keep S w w') (hS : ∀ k, S k → B ≤ k) (hB : B ≤ w.heap.size) : Below B w w' := below_ext (h.mono hS) hB
theorem at_own {B : Nat} {w w' : World} {row : Option Nat} {p : Nat} {c : Array Value} {t : TypeId} {fr : Nat × Nat} (hg : w.grownBy w' row) (hr : ∀ r, row = some r → B ≤ r ∧ ∃ o : Obj, w.heap[r]? = some o ∧ o.isCells = false)
    (h : w.heap[p]? = some (.cells c t fr)) : w'.heap[p]? = some (.cells c t fr) :=
  (keep_grow hg hr).at h fun hn => by obtain ⟨_, o, ho, hc⟩ := hn; rw [h] at ho; cases ho; cases hc
theorem setPs_2 (p q : Nat) (v u : Value) (e : Env) : setPs [p, q] [v, u] e = (q, u) :: (p, v) :: e := rfl
theorem BNew.own {w0 w w' : World} {p : Nat} {v : Value} {bs : List Int} {B : Nat} {row : Option Nat} (h : BNew w0 w p v bs) (hB : w0.heap.size ≤ B) (hg : w.grownBy w' row) (hr : ∀ r, row = some r → B ≤ r ∧ ∃ o : Obj, w.heap[r]? = some o ∧ o.isCells = false) : BNew w0 w' p v bs := by
  obtain ⟨a, ha, hp⟩ := h.is.at'
  refine ⟨⟨⟨a, ha, at_own hg hr hp⟩, h.is.own.keep (keep_grow hg hr) fun g hg2 hn => ?_, h.is.nil⟩, h.ext.trans (keep_grow hg hr) fun i hi hk => by have := hk.1; omega, h.lo, h.blk⟩
  obtain ⟨cur, hc⟩ := row_type h.is.own hg2
  obtain ⟨_, o, ho, hc2⟩ := hn
  rw [hc] at ho; cases ho; cases hc2
theorem hexfl {α : Type} (f : α → List Int) (hf : ∀ x, (f x).length = 2) (l : List α) : (l.flatMap f).length = 2 * l.length := by
  induction l with
  | nil => rfl
  | cons x l ih => rw [List.flatMap_cons, List.length_append, ih, hf]; simp; omega
/-- A digit. -/
def dgF (x : Int) : Int := if x < 10 then 48 + x else 87 + x
theorem dgF_b {x : Int} (h : 0 ≤ x ∧ x < 16) : 0 ≤ dgF x ∧ dgF x ≤ 255 := by unfold dgF; split <;> omega
def digL : List Int := [48, 49, 50, 51, 52, 53, 54, 55, 56, 57, 97, 98, 99, 100, 101, 102]
theorem digL_byt : byt digL := by intro x hx; simp [digL] at hx; omega
theorem digL_is : (⟨#[48, 49, 50, 51, 52, 53, 54, 55, 56, 57, 97, 98, 99, 100, 101, 102]⟩ : ByteArray) = strOf digL := by decide +kernel
theorem dig_at {x : Int} (h : 0 ≤ x ∧ x < 16) : (strOf digL)[x.toNat]? = some (UInt8.ofNat (dgF x).toNat) := by
  obtain ⟨n, rfl⟩ := Int.eq_ofNat_of_zero_le h.1
  have hd : ∀ n : Fin 16, (strOf digL)[n.val]? = some (UInt8.ofNat (dgF (n.val : Int)).toNat) := by decide +kernel
  have := hd ⟨n, by omega⟩
  simpa using this
theorem shr_4 {x : Int} (h : 0 ≤ x) : x.fdiv (2 ^ Nat.min 4 IntKind.u8.bits) = x / 16 := by
  show x.fdiv (2 ^ (Nat.min 4 8)) = x / 16
  rw [show Nat.min 4 8 = 4 from rfl, Int.fdiv_eq_ediv_of_nonneg _ (by decide)]
  rfl
theorem and_15 {x : Int} (h : 0 ≤ x ∧ x ≤ 255) : IntKind.u8.wrap (((BitVec.ofInt IntKind.u8.bits x &&& BitVec.ofInt IntKind.u8.bits 15).toNat : Nat) : Int) = x % 16 := by
  obtain ⟨n, rfl⟩ := Int.eq_ofNat_of_zero_le h.1
  have hd : ∀ n : Fin 256, IntKind.u8.wrap (((BitVec.ofInt IntKind.u8.bits ((n.val : Nat) : Int) &&& BitVec.ofInt IntKind.u8.bits 15).toNat : Nat) : Int) = ((n.val : Nat) : Int) % 16 := by decide +kernel
  exact hd ⟨n, by omega⟩
def hex2 (c : Int) : List Int := [dgF (c / 16), dgF (c % 16)]
def htext (h : List Int) : List Int := h.reverse.flatMap hex2
theorem htext_byt {h : List Int} (hb : byt h) : byt (htext h) := by
  intro x hx
  simp only [htext, List.mem_flatMap, List.mem_reverse] at hx
  obtain ⟨c, hc, hx⟩ := hx
  have := hb c hc
  simp only [hex2, List.mem_cons, List.not_mem_nil, or_false] at hx
  rcases hx with rfl | rfl
  · exact dgF_b (by omega)
  · exact dgF_b (by omega)
set_option maxHeartbeats 3200000 in
theorem htext_ok (w : World) (h : List Int) (hb : byt h) (hl : h.length = 32) :
    Calls Try.prog 16 #[.agg (bv h).toArray] w (Ret fun u w' => u = .string (strOf (htext h)) ∧ Ext w w') := by
  refine calls_of_ct 3 t16_ok (Nat.le_of_ble_eq_true rfl) ?_
  simp only [List.toList_toArray]
  simp only [argE_nil, argE_cons, Nat.reduceAdd, Nat.zero_add]
  simp (disch := first | omega | assumption | rfl | (simp only [vcS] <;> omega) | fail) only [t16, ↓vcC, slc3_s, ↓ptV_l, ↓vcA, vcB, ↓vcD, vcE, ↓reduceIte, Nat.reduceEqDiff, Nat.reduceAdd, Nat.reduceMul, Nat.reduceLeDiff, Int.reduceLE, Int.reduceLT, Int.reduceEq, Int.reduceToNat, Int.reduceAdd, Int.reduceSub, Int.reduceMul, Int.reduceNeg, reduceCtorEq, Option.bind_some, Option.map_some, List.length_cons, List.length_nil, vcM, List.getElem?_toArray, List.getElem?_cons_zero, List.getElem?_cons_succ]
  have hp1 : (w.alloc (.cells (bv h).toArray 39)).heap[w.heap.size]? = some (.cells (bv h).toArray 39 (0, 0)) := heap_new _ _ _ rfl
  have hE1 : Ext w (w.alloc (.cells (bv h).toArray 39)) := (Keep.refl _ w).alloc _
  generalize World.alloc _ _ = w1 at hp1 hE1 ⊢
  generalize hp1e : w.heap.size = p1 at hp1 ⊢
  (refine nx_at ?_; simp (disch := first | omega | assumption | rfl | (simp only [vcS] <;> omega) | fail) only [↓vcC, slc3_s, ↓ptV_l, ↓vcA, vcB, ↓vcD, vcE, ↓reduceIte, Nat.reduceEqDiff, Nat.reduceAdd, Nat.reduceMul, Nat.reduceLeDiff, Int.reduceLE, Int.reduceLT, Int.reduceEq, Int.reduceToNat, Int.reduceAdd, Int.reduceSub, Int.reduceMul, Int.reduceNeg, reduceCtorEq, Option.bind_some, Option.map_some, List.length_cons, List.length_nil, vcM, List.getElem?_toArray, List.getElem?_cons_zero, List.getElem?_cons_succ])
  have hS1 : BNew w1 (w1.alloc (.cells #[.pointer none, .slice none 0 0] 71)) w1.heap.size (.slice none 0 0) [] := BNew.start w1
  have hp12 := hS1.ext.at hp1 (fun h => h)
  have hpe1 := lt_of_heap hp1
  have hzz : (zc [(1, Value.pointer none), (1, Value.slice none 0 0)]) = #[.pointer none, .slice none 0 0] := rfl
  rw [hzz]
  generalize World.alloc _ _ = w2 at hS1 hp12 ⊢
  generalize hp3e : w1.heap.size = p3 at hS1 hpe1 ⊢
  refine callV_ret (back_ok w2 (.slice (some ⟨p1, 0, none⟩) 32 32) rfl) ?_
  rintro _ w3 ⟨b1, T1, rfl, hm1, hE3, hl1, hl3⟩
  first | (simp (disch := first | omega | assumption | rfl | (simp only [vcS] <;> omega) | fail) only [↓vcC, slc3_s, ↓ptV_l, ↓vcA, vcB, ↓vcD, vcE, ↓reduceIte, Nat.reduceEqDiff, Nat.reduceAdd, Nat.reduceMul, Nat.reduceLeDiff, Int.reduceLE, Int.reduceLT, Int.reduceEq, Int.reduceToNat, Int.reduceAdd, Int.reduceSub, Int.reduceMul, Int.reduceNeg, reduceCtorEq, Option.bind_some, Option.map_some, List.length_cons, List.length_nil, vcM, List.getElem?_toArray, List.getElem?_cons_zero, List.getElem?_cons_succ]) | skip
  (refine nx_at ?_; simp (disch := first | omega | assumption | rfl | (simp only [vcS] <;> omega) | fail) only [↓vcC, slc3_s, ↓ptV_l, ↓vcA, vcB, ↓vcD, vcE, ↓reduceIte, Nat.reduceEqDiff, Nat.reduceAdd, Nat.reduceMul, Nat.reduceLeDiff, Int.reduceLE, Int.reduceLT, Int.reduceEq, Int.reduceToNat, Int.reduceAdd, Int.reduceSub, Int.reduceMul, Int.reduceNeg, reduceCtorEq, Option.bind_some, Option.map_some, List.length_cons, List.length_nil, vcM, List.getElem?_toArray, List.getElem?_cons_zero, List.getElem?_cons_succ])
  have hp13 := hE3.at hp12 (fun h => h)
  have hm1' : w3.heap[b1]? = some (.cells #[.slice (some ⟨p1, 0, none⟩) h.length h.length] T1 (0, 0)) := by rw [hl]; exact hm1
  have hst := back_stops w3 b1 p1 h T1 _ hm1' hp13 (by omega)
  have hp2s := hS1.ext.size
  have h3s := hE3.size
  have hp3l := hS1.is.lt
  have hS3 : BNew w1 w3 p3 (.slice none 0 0) [] := by
    obtain ⟨a, ha, hp⟩ := hS1.is.at'
    exact ⟨⟨⟨a, ha, hE3.at hp (fun h => h)⟩, Own1.nil _, fun _ => rfl⟩, hS1.ext.ext hE3, hS1.lo, fun g h => by cases h⟩
  have hlt13 : p1 < w3.heap.size := lt_of_heap hp13
  have hdgs : ∀ n : Int, 0 ≤ n → n < 16 → 0 ≤ dgF n ∧ dgF n ≤ 255 := fun n h1 h2 => by unfold dgF; split <;> omega
  refine rg_of [b1, p1] (by decide) _ _ _ _ _ _
    (fun (pre : List (Fin h.length)) W => (∃ v, BNew w1 W p3 v (pre.flatMap fun i => hex2 h[i.val]) ∧ (∀ g, Go.Proofs.blk v g → g ≠ b1 ∧ g ≠ p1)) ∧ pre.length ≤ 32 ∧ w3.heap.size ≤ W.heap.size ∧ W.heap[b1]? = some (.cells #[.slice (some ⟨p1, 0, none⟩) 32 32] T1 (0, 0)))
    (fun key pre W => False)
    (fun t e1 W => Vc.look e1 3 = some (.pointer (some ⟨p3, 0, none⟩)) ∧ Vc.look e1 5 = some (.int .u8 h[t.val]))
    rfl rfl (by intro b hb; simp at hb; rcases hb with rfl | rfl <;> omega) hst (fun _ => rfl) ?_ ?_ ⟨⟨_, hS3, fun g hg => by cases hg⟩, Nat.zero_le _, Nat.le_refl _, hm1⟩ ?_ ?_ ?_ ?_ ?_
  · rintro pre W W' row ⟨⟨v, g1, g2⟩, g3, g4, g5⟩ hg hr
    exact ⟨⟨v, g1.own (by omega) hg hr, g2⟩, g3, Nat.le_trans g4 hg.size, at_own hg hr g5⟩
  · rintro key pre W W' row hf hg hr
    exact hf
  · rintro t e1 _ W W' row hA hg hr
    exact hA
  · rintro l pre t W hI
    show ctV _ _ _ _ _ _ _ _ ((9, .int .u8 _) :: (8, .int .i64 _) :: _) _
    simp (disch := first | omega | assumption | rfl | (simp only [vcS] <;> omega) | fail) only [↓vcC, slc3_s, ↓ptV_l, ↓vcA, vcB, ↓vcD, vcE, ↓reduceIte, Nat.reduceEqDiff, Nat.reduceAdd, Nat.reduceMul, Nat.reduceLeDiff, Int.reduceLE, Int.reduceLT, Int.reduceEq, Int.reduceToNat, Int.reduceAdd, Int.reduceSub, Int.reduceMul, Int.reduceNeg, reduceCtorEq, Option.bind_some, Option.map_some, List.length_cons, List.length_nil, vcM, List.getElem?_toArray, List.getElem?_cons_zero, List.getElem?_cons_succ]
    exact ⟨KeepsFrom.refl _ _, fun _ _ => rfl, hI⟩
  · rintro l pre t e1 W hll hr ⟨⟨v, g1, g2⟩, g3, g4, g5⟩ ⟨l3, l5⟩ hlt
    have hfl := hexfl (fun i : Fin h.length => hex2 h[i.val]) (fun _ => rfl) pre
    have hsn : ((pre ++ [t]).flatMap fun i => hex2 h[i.val]) = (pre.flatMap fun i => hex2 h[i.val]) ++ [dgF (h[t.val] / 16)] ++ [dgF (h[t.val] % 16)] := by simp [hex2]
    have hbb := hb h[t.val] (List.getElem_mem _)
    rw [hsn, List.length_append]
    have s4 := shr_4 hbb.1
    have d0 : 0 ≤ h[t.val] / 16 := by omega
    have x1 := dig_at (x := h[t.val] / 16) (by omega)
    have x2 := dig_at (x := h[t.val] % 16) (by omega)
    have u1 := u8i (dgF_b (x := h[t.val] / 16) (by omega))
    have u2 := u8i (dgF_b (x := h[t.val] % 16) (by omega))
    have a15 := and_15 hbb
    have m0 : 0 ≤ h[t.val] % 16 := by omega
    have hcl : ∀ (W : World) v bs, BNew w1 W p3 v bs → ∀ k, (k = p3 ∨ Go.Proofs.blk v k) → ∀ o, W.heap[k]? = some o → o.isCells = true := by
      rintro W v bs hB k (rfl | hk) o ho
      · obtain ⟨a, ha, hp⟩ := hB.is.at'
        rw [hp] at ho; cases ho; rfl
      · obtain ⟨cur, hc⟩ := row_type hB.is.own hk
        rw [hc] at ho; cases ho; rfl
    simp (disch := first | omega | assumption | rfl | (simp only [vcS] <;> omega) | fail) only [↓vcC, slc3_s, ↓ptV_l, ↓vcA, vcB, ↓vcD, vcE, ↓reduceIte, Nat.reduceEqDiff, Nat.reduceAdd, Nat.reduceMul, Nat.reduceLeDiff, Int.reduceLE, Int.reduceLT, Int.reduceEq, Int.reduceToNat, Int.reduceAdd, Int.reduceSub, Int.reduceMul, Int.reduceNeg, reduceCtorEq, Option.bind_some, Option.map_some, List.length_cons, List.length_nil, vcM, List.getElem?_toArray, List.getElem?_cons_zero, List.getElem?_cons_succ, l3, l5, s4, digL_is, d0, x1, u1]
    refine callV_ret (writeByte_ok2 w1 W p3 v _ _ g1 (by omega)) ?_
    rintro _ W2 ⟨v2, hB2, hk2, hg2⟩
    first | (simp (disch := first | omega | assumption | rfl | (simp only [vcS] <;> omega) | fail) only [↓vcC, slc3_s, ↓ptV_l, ↓vcA, vcB, ↓vcD, vcE, ↓reduceIte, Nat.reduceEqDiff, Nat.reduceAdd, Nat.reduceMul, Nat.reduceLeDiff, Int.reduceLE, Int.reduceLT, Int.reduceEq, Int.reduceToNat, Int.reduceAdd, Int.reduceSub, Int.reduceMul, Int.reduceNeg, reduceCtorEq, Option.bind_some, Option.map_some, List.length_cons, List.length_nil, vcM, List.getElem?_toArray, List.getElem?_cons_zero, List.getElem?_cons_succ]) | skip
    (refine nx_at ?_; simp (disch := first | omega | assumption | rfl | (simp only [vcS] <;> omega) | fail) only [↓vcC, slc3_s, ↓ptV_l, ↓vcA, vcB, ↓vcD, vcE, ↓reduceIte, Nat.reduceEqDiff, Nat.reduceAdd, Nat.reduceMul, Nat.reduceLeDiff, Int.reduceLE, Int.reduceLT, Int.reduceEq, Int.reduceToNat, Int.reduceAdd, Int.reduceSub, Int.reduceMul, Int.reduceNeg, reduceCtorEq, Option.bind_some, Option.map_some, List.length_cons, List.length_nil, vcM, List.getElem?_toArray, List.getElem?_cons_zero, List.getElem?_cons_succ, l3, l5, a15, digL_is, m0, x2, u2])
    refine callV_ret (writeByte_ok2 w1 W2 p3 v2 _ _ hB2 (by rw [List.length_append, hfl, List.length_singleton]; omega)) ?_
    rintro _ W3 ⟨v3, hB3, hk3, hg3⟩
    first | (simp (disch := first | omega | assumption | rfl | (simp only [vcS] <;> omega) | fail) only [↓vcC, slc3_s, ↓ptV_l, ↓vcA, vcB, ↓vcD, vcE, ↓reduceIte, Nat.reduceEqDiff, Nat.reduceAdd, Nat.reduceMul, Nat.reduceLeDiff, Int.reduceLE, Int.reduceLT, Int.reduceEq, Int.reduceToNat, Int.reduceAdd, Int.reduceSub, Int.reduceMul, Int.reduceNeg, reduceCtorEq, Option.bind_some, Option.map_some, List.length_cons, List.length_nil, vcM, List.getElem?_toArray, List.getElem?_cons_zero, List.getElem?_cons_succ]) | skip
    have hkb : ∀ (W : World) (v : Value) W2, (∀ g, Go.Proofs.blk v g → g ≠ b1 ∧ g ≠ p1) → Keep (fun g => g = p3 ∨ Go.Proofs.blk v g) W W2 → ∀ b, b ∈ [b1, p1] → b < W.heap.size → W2.heap[b]? = W.heap[b]? := by
      intro W v W2 hg hk b hb hbl
      refine hk.block b hbl ?_
      simp at hb
      rintro (e | e)
      · rcases hb with rfl | rfl <;> omega
      · have := hg b e
        rcases hb with rfl | rfl <;> omega
    have g2' : ∀ g, Go.Proofs.blk v2 g → g ≠ b1 ∧ g ≠ p1 := fun g hg => by
      rcases hg2 g hg with hh | hh
      · exact g2 g hh
      · omega
    have g2'' : ∀ g, Go.Proofs.blk v3 g → g ≠ b1 ∧ g ≠ p1 := fun g hg => by
      have := hk2.size
      rcases hg3 g hg with hh | hh
      · exact g2' g hh
      · omega
    have s2 := hk2.size
    have s3 := hk3.size
    have kk1 := keepsFrom_of (B := w3.heap.size) hk2 (hcl W v _ g1)
    have kk2 := keepsFrom_of (B := w3.heap.size) hk3 (hcl W2 v2 _ hB2)
    have hpb : KpB [b1, p1] W W3 := fun b hb => by
      have hbl : b < W.heap.size := by simp at hb; rcases hb with rfl | rfl <;> omega
      exact (hkb W2 v2 W3 g2' hk3 b hb (by omega)).trans (hkb W v W2 g2 hk2 b hb hbl)
    refine ⟨kk1.trans kk2, hpb, ⟨v3, hB3, g2''⟩, by omega, by omega, (hpb b1 (by simp)).trans g5⟩
  · rintro D xs W hDD rfl ⟨⟨v, g1, g2⟩, g3, g4, g5⟩ hDK
    have e1 : ((List.finRange h.length).reverse.flatMap fun i => hex2 h[i.val]) = htext h := by
      unfold htext
      rw [← List.flatMap_map (f := fun i : Fin h.length => h[i.val]) (g := hex2), List.map_reverse]
      congr 2
      exact List.ext_getElem (by simp) (by simp)
    rw [e1] at g1
    (refine nx_at ?_; simp (disch := first | omega | assumption | rfl | (simp only [vcS] <;> omega) | fail) only [↓vcC, slc3_s, ↓ptV_l, ↓vcA, vcB, ↓vcD, vcE, ↓reduceIte, Nat.reduceEqDiff, Nat.reduceAdd, Nat.reduceMul, Nat.reduceLeDiff, Int.reduceLE, Int.reduceLT, Int.reduceEq, Int.reduceToNat, Int.reduceAdd, Int.reduceSub, Int.reduceMul, Int.reduceNeg, reduceCtorEq, Option.bind_some, Option.map_some, List.length_cons, List.length_nil, vcM, List.getElem?_toArray, List.getElem?_cons_zero, List.getElem?_cons_succ])
    refine callV_ret (string_ok W p3 v _ g1.is (htext_byt hb)) ?_
    rintro _ w9 ⟨rfl, hK⟩
    first | (simp (disch := first | omega | assumption | rfl | (simp only [vcS] <;> omega) | fail) only [↓vcC, slc3_s, ↓ptV_l, ↓vcA, vcB, ↓vcD, vcE, ↓reduceIte, Nat.reduceEqDiff, Nat.reduceAdd, Nat.reduceMul, Nat.reduceLeDiff, Int.reduceLE, Int.reduceLT, Int.reduceEq, Int.reduceToNat, Int.reduceAdd, Int.reduceSub, Int.reduceMul, Int.reduceNeg, reduceCtorEq, Option.bind_some, Option.map_some, List.length_cons, List.length_nil, vcM, List.getElem?_toArray, List.getElem?_cons_zero, List.getElem?_cons_succ]) | skip
    (refine nx_at ?_; simp (disch := first | omega | assumption | rfl | (simp only [vcS] <;> omega) | fail) only [↓vcC, slc3_s, ↓ptV_l, ↓vcA, vcB, ↓vcD, vcE, ↓reduceIte, Nat.reduceEqDiff, Nat.reduceAdd, Nat.reduceMul, Nat.reduceLeDiff, Int.reduceLE, Int.reduceLT, Int.reduceEq, Int.reduceToNat, Int.reduceAdd, Int.reduceSub, Int.reduceMul, Int.reduceNeg, reduceCtorEq, Option.bind_some, Option.map_some, List.length_cons, List.length_nil, vcM, List.getElem?_toArray, List.getElem?_cons_zero, List.getElem?_cons_succ])
    refine lvV_cons (hK.at hDK fun hg => ?_) ?_
    · obtain ⟨cur, hc⟩ := row_type g1.is.own hg
      rw [hDK] at hc; cases hc
    simp (disch := first | omega | assumption | rfl | (simp only [vcS] <;> omega) | fail) only [↓vcC, slc3_s, ↓ptV_l, ↓vcA, vcB, ↓vcD, vcE, ↓reduceIte, Nat.reduceEqDiff, Nat.reduceAdd, Nat.reduceMul, Nat.reduceLeDiff, Int.reduceLE, Int.reduceLT, Int.reduceEq, Int.reduceToNat, Int.reduceAdd, Int.reduceSub, Int.reduceMul, Int.reduceNeg, reduceCtorEq, Option.bind_some, Option.map_some, List.length_cons, List.length_nil, vcM, List.getElem?_toArray, List.getElem?_cons_zero, List.getElem?_cons_succ, Ret_returned]
    have hkD : Keep (fun k => k = D) w9 (w9.putObj D (.deferred none)) := (Keep.refl _ w9).grown (grownBy_putObj' w9 D _) (fun k _ h => by cases h; rfl)
    exact hE1.ext (((g1.ext.trans hK fun k hk hg => by have := g1.blk k hg; omega)).trans hkD fun k hk e => by omega)
  · rintro D key pre W hDD hj hf hDK
    exact hf.elim
end Go.Proofs
