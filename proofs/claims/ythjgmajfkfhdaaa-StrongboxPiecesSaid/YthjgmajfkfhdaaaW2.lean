/- The program's writer, the second half; what it writes. -/
import Derived.Test.YthjgmajfkfhdaaaW1
import Derived.Test.YthjgmajfkfhdaaaM0
set_option linter.unusedSimpArgs false
set_option linter.unusedVariables false
set_option linter.constructorNameAsVariable false
namespace Go.Proofs
open Go.Vc
set_option maxRecDepth 10000

theorem raw_ok (w : World) (p : Nat) (v : Value) (bs : List Int) (x : Value) (news : List Int) (h : WAt w p v bs) (hx : Rd w x news) (hl : bs.length + news.length ≤ 100000000) :
    Calls Try.prog 23 #[.pointer (some ⟨p, 0, none⟩), x] w (Ret fun _ w' => WTo w w' p v (bs ++ news)) := by
  refine calls_of_cfg c23_ok (Nat.le_of_ble_eq_true rfl) ?_
  simp only [argE_nil, argE_cons, Nat.reduceAdd, Nat.zero_add]
  have hat := h.at'
  (refine W_at c23_ok ?_; refine ⟨_, rfl, ?_⟩; simp (disch := first | omega | assumption | rfl | (simp only [vcS] <;> omega) | fail) only [↓ptV_l, ↓vcA, vcB, ↓vcD, vcE, ↓reduceIte, Nat.reduceEqDiff, Nat.reduceAdd, Nat.reduceMul, Nat.reduceLeDiff, Int.reduceLE, Int.reduceLT, Int.reduceEq, Int.reduceToNat, Int.reduceAdd, Int.reduceSub, Int.reduceMul, Int.reduceNeg, reduceCtorEq, Option.bind_some, Option.map_some, List.length_cons, List.length_nil, vcM, List.getElem?_toArray, List.getElem?_cons_zero, List.getElem?_cons_succ, hat])
  refine appB h.own hx (by omega) fun v' w' h1 h2 h3 => ?_
  obtain ⟨hp, hW', hK'⟩ := h.store h1 h2 h3
  refine ⟨one_row h1, wr1_of hp (by simp), ?_⟩
  (refine W_at c23_ok ?_; refine ⟨_, rfl, ?_⟩; simp (disch := first | omega | assumption | rfl | (simp only [vcS] <;> omega) | fail) only [↓ptV_l, ↓vcA, vcB, ↓vcD, vcE, ↓reduceIte, Nat.reduceEqDiff, Nat.reduceAdd, Nat.reduceMul, Nat.reduceLeDiff, Int.reduceLE, Int.reduceLT, Int.reduceEq, Int.reduceToNat, Int.reduceAdd, Int.reduceSub, Int.reduceMul, Int.reduceNeg, reduceCtorEq, Option.bind_some, Option.map_some, List.length_cons, List.length_nil, vcM, List.getElem?_toArray, List.getElem?_cons_zero, List.getElem?_cons_succ, Ret_returned])
  exact ⟨⟨v', hW', h3⟩, hK'⟩

theorem out_ok (w : World) (p : Nat) (v : Value) (bs : List Int) (h : WAt w p v bs) (hl : bs.length ≤ 100000000) :
    Calls Try.prog 10 #[.pointer (some ⟨p, 0, none⟩)] w (Ret fun u w' => Own1 w' u bs ∧ Ext w w' ∧ ∀ g, blk u g → w.heap.size ≤ g) := by
  refine calls_of_cfg c10_ok (Nat.le_of_ble_eq_true rfl) ?_
  simp only [argE_nil, argE_cons, Nat.reduceAdd, Nat.zero_add]
  have hat := h.at'
  (refine W_at c10_ok ?_; refine ⟨_, rfl, ?_⟩; simp (disch := first | omega | assumption | rfl | (simp only [vcS] <;> omega) | fail) only [↓ptV_l, ↓vcA, vcB, ↓vcD, vcE, ↓reduceIte, Nat.reduceEqDiff, Nat.reduceAdd, Nat.reduceMul, Nat.reduceLeDiff, Int.reduceLE, Int.reduceLT, Int.reduceEq, Int.reduceToNat, Int.reduceAdd, Int.reduceSub, Int.reduceMul, Int.reduceNeg, reduceCtorEq, Option.bind_some, Option.map_some, List.length_cons, List.length_nil, vcM, List.getElem?_toArray, List.getElem?_cons_zero, List.getElem?_cons_succ])
  (refine W_at c10_ok ?_; refine ⟨_, rfl, ?_⟩; simp (disch := first | omega | assumption | rfl | (simp only [vcS] <;> omega) | fail) only [↓ptV_l, ↓vcA, vcB, ↓vcD, vcE, ↓reduceIte, Nat.reduceEqDiff, Nat.reduceAdd, Nat.reduceMul, Nat.reduceLeDiff, Int.reduceLE, Int.reduceLT, Int.reduceEq, Int.reduceToNat, Int.reduceAdd, Int.reduceSub, Int.reduceMul, Int.reduceNeg, reduceCtorEq, Option.bind_some, Option.map_some, List.length_cons, List.length_nil, vcM, List.getElem?_toArray, List.getElem?_cons_zero, List.getElem?_cons_succ, hat])
  refine callV_ret (clone_ok w v bs h.own.rd (by omega)) ?_
  rintro u w1 ⟨h1, h2, h3⟩
  (refine W_at c10_ok ?_; refine ⟨_, rfl, ?_⟩; simp (disch := first | omega | assumption | rfl | (simp only [vcS] <;> omega) | fail) only [↓ptV_l, ↓vcA, vcB, ↓vcD, vcE, ↓reduceIte, Nat.reduceEqDiff, Nat.reduceAdd, Nat.reduceMul, Nat.reduceLeDiff, Int.reduceLE, Int.reduceLT, Int.reduceEq, Int.reduceToNat, Int.reduceAdd, Int.reduceSub, Int.reduceMul, Int.reduceNeg, reduceCtorEq, Option.bind_some, Option.map_some, List.length_cons, List.length_nil, vcM, List.getElem?_toArray, List.getElem?_cons_zero, List.getElem?_cons_succ, Ret_returned])
  exact ⟨h1, h2, h3⟩

/-- A compact size. -/
def sizeF (n : Int) : List Int := if n < 253 then [n] else if n < 65536 then 253 :: lowF 2 n else if n < 4294967296 then 254 :: lowF 4 n else 255 :: lowF 8 n
theorem size_ok (w : World) (p : Nat) (v : Value) (bs : List Int) (n : Int) (h : WAt w p v bs) (hl : bs.length ≤ 1000000) (hn : 0 ≤ n) :
    Calls Try.prog 22 #[.pointer (some ⟨p, 0, none⟩), .int .u64 n] w (Ret fun _ w' => WTo w w' p v (bs ++ sizeF n)) := by
  refine calls_of_cfg c22_ok (Nat.le_of_ble_eq_true rfl) ?_
  simp only [argE_nil, argE_cons, Nat.reduceAdd, Nat.zero_add]
  (refine W_at c22_ok ?_; refine ⟨_, rfl, ?_⟩; simp (disch := first | omega | assumption | rfl | (simp only [vcS] <;> omega) | fail) only [↓ptV_l, ↓vcA, vcB, ↓vcD, vcE, ↓reduceIte, Nat.reduceEqDiff, Nat.reduceAdd, Nat.reduceMul, Nat.reduceLeDiff, Int.reduceLE, Int.reduceLT, Int.reduceEq, Int.reduceToNat, Int.reduceAdd, Int.reduceSub, Int.reduceMul, Int.reduceNeg, reduceCtorEq, Option.bind_some, Option.map_some, List.length_cons, List.length_nil, vcM, List.getElem?_toArray, List.getElem?_cons_zero, List.getElem?_cons_succ])
  refine callV_ret (wide_ok w n) ?_
  rintro _ w1 ⟨rfl, hw⟩
  obtain rfl : w = w1 := hw.symm
  by_cases h1 : n < 253
  · have hwd : wideF n = 0 := by unfold wideF; rw [if_pos h1]
    have hc : IntKind.u8.wrap n = n := by rw [wrap_u8]; omega
    rw [hwd]
    (refine W_at c22_ok ?_; refine ⟨_, rfl, ?_⟩; simp (disch := first | omega | assumption | rfl | (simp only [vcS] <;> omega) | fail) only [↓ptV_l, ↓vcA, vcB, ↓vcD, vcE, ↓reduceIte, Nat.reduceEqDiff, Nat.reduceAdd, Nat.reduceMul, Nat.reduceLeDiff, Int.reduceLE, Int.reduceLT, Int.reduceEq, Int.reduceToNat, Int.reduceAdd, Int.reduceSub, Int.reduceMul, Int.reduceNeg, reduceCtorEq, Option.bind_some, Option.map_some, List.length_cons, List.length_nil, vcM, List.getElem?_toArray, List.getElem?_cons_zero, List.getElem?_cons_succ])
    (refine W_at c22_ok ?_; refine ⟨_, rfl, ?_⟩; simp (disch := first | omega | assumption | rfl | (simp only [vcS] <;> omega) | fail) only [↓ptV_l, ↓vcA, vcB, ↓vcD, vcE, ↓reduceIte, Nat.reduceEqDiff, Nat.reduceAdd, Nat.reduceMul, Nat.reduceLeDiff, Int.reduceLE, Int.reduceLT, Int.reduceEq, Int.reduceToNat, Int.reduceAdd, Int.reduceSub, Int.reduceMul, Int.reduceNeg, reduceCtorEq, Option.bind_some, Option.map_some, List.length_cons, List.length_nil, vcM, List.getElem?_toArray, List.getElem?_cons_zero, List.getElem?_cons_succ])
    (refine W_at c22_ok ?_; refine ⟨_, rfl, ?_⟩; simp (disch := first | omega | assumption | rfl | (simp only [vcS] <;> omega) | fail) only [↓ptV_l, ↓vcA, vcB, ↓vcD, vcE, ↓reduceIte, Nat.reduceEqDiff, Nat.reduceAdd, Nat.reduceMul, Nat.reduceLeDiff, Int.reduceLE, Int.reduceLT, Int.reduceEq, Int.reduceToNat, Int.reduceAdd, Int.reduceSub, Int.reduceMul, Int.reduceNeg, reduceCtorEq, Option.bind_some, Option.map_some, List.length_cons, List.length_nil, vcM, List.getElem?_toArray, List.getElem?_cons_zero, List.getElem?_cons_succ])
    (refine W_at c22_ok ?_; refine ⟨_, rfl, ?_⟩; simp (disch := first | omega | assumption | rfl | (simp only [vcS] <;> omega) | fail) only [↓ptV_l, ↓vcA, vcB, ↓vcD, vcE, ↓reduceIte, Nat.reduceEqDiff, Nat.reduceAdd, Nat.reduceMul, Nat.reduceLeDiff, Int.reduceLE, Int.reduceLT, Int.reduceEq, Int.reduceToNat, Int.reduceAdd, Int.reduceSub, Int.reduceMul, Int.reduceNeg, reduceCtorEq, Option.bind_some, Option.map_some, List.length_cons, List.length_nil, vcM, List.getElem?_toArray, List.getElem?_cons_zero, List.getElem?_cons_succ, hc])
    refine callV_ret (u8_ok w p v bs n h (by omega) (by omega)) ?_
    intro _ w1 hT
    (refine W_at c22_ok ?_; refine ⟨_, rfl, ?_⟩; simp (disch := first | omega | assumption | rfl | (simp only [vcS] <;> omega) | fail) only [↓ptV_l, ↓vcA, vcB, ↓vcD, vcE, ↓reduceIte, Nat.reduceEqDiff, Nat.reduceAdd, Nat.reduceMul, Nat.reduceLeDiff, Int.reduceLE, Int.reduceLT, Int.reduceEq, Int.reduceToNat, Int.reduceAdd, Int.reduceSub, Int.reduceMul, Int.reduceNeg, reduceCtorEq, Option.bind_some, Option.map_some, List.length_cons, List.length_nil, vcM, List.getElem?_toArray, List.getElem?_cons_zero, List.getElem?_cons_succ, Ret_returned])
    have e : sizeF n = lowF 1 n := by unfold sizeF; rw [if_pos h1]; simp only [lowF]; congr 1; omega
    rw [e]; exact hT
  · have hkey : ∀ (k : Nat) (b : Int), (k = 2 ∧ b = 253) ∨ (k = 4 ∧ b = 254) ∨ (k = 8 ∧ b = 255) → wideF n = k → sizeF n = b :: lowF k n → W Try.prog (Ret fun x w' => WTo w w' p v (bs ++ sizeF n)) 22 6
        [(0, .pointer (some ⟨p, 0, none⟩)), (1, .int .u64 n), (4, .int .i64 (wideF n))] w := by
      intro k b hkb hw hsz
      rw [hw]
      have hk0 : ¬ ((k : Int) = 0) := by omega
      (refine W_at c22_ok ?_; refine ⟨_, rfl, ?_⟩; simp (disch := first | omega | assumption | rfl | (simp only [vcS] <;> omega) | fail) only [↓ptV_l, ↓vcA, vcB, ↓vcD, vcE, ↓reduceIte, Nat.reduceEqDiff, Nat.reduceAdd, Nat.reduceMul, Nat.reduceLeDiff, Int.reduceLE, Int.reduceLT, Int.reduceEq, Int.reduceToNat, Int.reduceAdd, Int.reduceSub, Int.reduceMul, Int.reduceNeg, reduceCtorEq, Option.bind_some, Option.map_some, List.length_cons, List.length_nil, vcM, List.getElem?_toArray, List.getElem?_cons_zero, List.getElem?_cons_succ])
      (refine W_at c22_ok ?_; refine ⟨_, rfl, ?_⟩; simp (disch := first | omega | assumption | rfl | (simp only [vcS] <;> omega) | fail) only [↓ptV_l, ↓vcA, vcB, ↓vcD, vcE, ↓reduceIte, Nat.reduceEqDiff, Nat.reduceAdd, Nat.reduceMul, Nat.reduceLeDiff, Int.reduceLE, Int.reduceLT, Int.reduceEq, Int.reduceToNat, Int.reduceAdd, Int.reduceSub, Int.reduceMul, Int.reduceNeg, reduceCtorEq, Option.bind_some, Option.map_some, List.length_cons, List.length_nil, vcM, List.getElem?_toArray, List.getElem?_cons_zero, List.getElem?_cons_succ, hk0])
      (refine W_at c22_ok ?_; refine ⟨_, rfl, ?_⟩; simp (disch := first | omega | assumption | rfl | (simp only [vcS] <;> omega) | fail) only [↓ptV_l, ↓vcA, vcB, ↓vcD, vcE, ↓reduceIte, Nat.reduceEqDiff, Nat.reduceAdd, Nat.reduceMul, Nat.reduceLeDiff, Int.reduceLE, Int.reduceLT, Int.reduceEq, Int.reduceToNat, Int.reduceAdd, Int.reduceSub, Int.reduceMul, Int.reduceNeg, reduceCtorEq, Option.bind_some, Option.map_some, List.length_cons, List.length_nil, vcM, List.getElem?_toArray, List.getElem?_cons_zero, List.getElem?_cons_succ])
      (refine W_at c22_ok ?_; refine ⟨_, rfl, ?_⟩; simp (disch := first | omega | assumption | rfl | (simp only [vcS] <;> omega) | fail) only [↓ptV_l, ↓vcA, vcB, ↓vcD, vcE, ↓reduceIte, Nat.reduceEqDiff, Nat.reduceAdd, Nat.reduceMul, Nat.reduceLeDiff, Int.reduceLE, Int.reduceLT, Int.reduceEq, Int.reduceToNat, Int.reduceAdd, Int.reduceSub, Int.reduceMul, Int.reduceNeg, reduceCtorEq, Option.bind_some, Option.map_some, List.length_cons, List.length_nil, vcM, List.getElem?_toArray, List.getElem?_cons_zero, List.getElem?_cons_succ])
      have hE0 : Ext w (w.alloc (Obj.map #[] 0)) := by (repeat' first | exact Keep.refl _ _ | assumption | refine Keep.drew ?_ | refine Keep.alloc ?_ _ | refine Keep.putN ?_ _ ?_ | refine Keep.setCell ?_ _ ?_ | refine Keep.setO ?_ _ ?_ | exact fun _ => Or.inl rfl | exact fun _ => Or.inr rfl | exact fun _ => rfl | (intro hh; exfalso; ((try simp only [vcS] at hh) <;> omega)))
      have hm0 := MapI.empty w
      have hrs : w.heap.size < (w.alloc (Obj.map #[] 0)).heap.size := by rw [size_alloc]; omega
      generalize hr : w.heap.size = r at hm0 hrs ⊢
      generalize World.alloc _ _ = w1 at hE0 hm0 hrs ⊢
      have kp : ∀ (wx wy : World), Ext w wx → Keep (fun i => i = r) wx wy → Ext w wy := fun wx wy h k => h.trans k fun i hi (e : i = r) => by omega
      refine hm0.put 2 _ fun w2 hm2 hk2 => ?_
      have hE2 := kp _ _ hE0 hk2
      refine hm2.put 4 _ fun w3 hm3 hk3 => ?_
      have hE3 := kp _ _ hE2 hk3
      refine hm3.put 8 _ fun w4 hm4 hk4 => ?_
      have hE4 := kp _ _ hE3 hk4
      rw [hm4.lkp]
      have hg : getM k (putM 8 (Value.int .u8 255) (putM 4 (Value.int .u8 254) (putM 2 (Value.int .u8 253) []))) = some (.int .u8 b) := by
        rcases hkb with ⟨rfl, rfl⟩ | ⟨rfl, rfl⟩ | ⟨rfl, rfl⟩ <;> rfl
      rw [hg]
      simp (disch := first | omega | assumption | rfl | (simp only [vcS] <;> omega) | fail) only [↓ptV_l, ↓vcA, vcB, ↓vcD, vcE, ↓reduceIte, Nat.reduceEqDiff, Nat.reduceAdd, Nat.reduceMul, Nat.reduceLeDiff, Int.reduceLE, Int.reduceLT, Int.reduceEq, Int.reduceToNat, Int.reduceAdd, Int.reduceSub, Int.reduceMul, Int.reduceNeg, reduceCtorEq, Option.bind_some, Option.map_some, List.length_cons, List.length_nil, vcM, List.getElem?_toArray, List.getElem?_cons_zero, List.getElem?_cons_succ, packL]
      have hW4 := h.keep hE4 (fun h => h) fun _ _ h => h
      refine callV_ret (u8_ok w4 p v bs b hW4 (by omega) (by omega)) ?_
      intro _ w5 hT
      obtain ⟨⟨v', hW5, hb5⟩, hk5⟩ := hT
      (refine W_at c22_ok ?_; refine ⟨_, rfl, ?_⟩; simp (disch := first | omega | assumption | rfl | (simp only [vcS] <;> omega) | fail) only [↓ptV_l, ↓vcA, vcB, ↓vcD, vcE, ↓reduceIte, Nat.reduceEqDiff, Nat.reduceAdd, Nat.reduceMul, Nat.reduceLeDiff, Int.reduceLE, Int.reduceLT, Int.reduceEq, Int.reduceToNat, Int.reduceAdd, Int.reduceSub, Int.reduceMul, Int.reduceNeg, reduceCtorEq, Option.bind_some, Option.map_some, List.length_cons, List.length_nil, vcM, List.getElem?_toArray, List.getElem?_cons_zero, List.getElem?_cons_succ])
      refine callV_ret (number_ok w5 p v' _ n k hW5 (by omega) (by simp [lowF]; omega)) ?_
      intro _ w6 hT
      (refine W_at c22_ok ?_; refine ⟨_, rfl, ?_⟩; simp (disch := first | omega | assumption | rfl | (simp only [vcS] <;> omega) | fail) only [↓ptV_l, ↓vcA, vcB, ↓vcD, vcE, ↓reduceIte, Nat.reduceEqDiff, Nat.reduceAdd, Nat.reduceMul, Nat.reduceLeDiff, Int.reduceLE, Int.reduceLT, Int.reduceEq, Int.reduceToNat, Int.reduceAdd, Int.reduceSub, Int.reduceMul, Int.reduceNeg, reduceCtorEq, Option.bind_some, Option.map_some, List.length_cons, List.length_nil, vcM, List.getElem?_toArray, List.getElem?_cons_zero, List.getElem?_cons_succ, Ret_returned])
      rw [hsz]
      have e : bs ++ b :: lowF k n = bs ++ lowF 1 b ++ lowF k n := by
        have : b % 256 = b := by omega
        simp only [lowF, this, List.append_assoc, List.cons_append, List.nil_append]
      rw [e]
      refine WTo.trans ((hE4.mono fun _ h => h.elim).trans hk5 fun i _ h => h) (fun g hg => ?_) hT
      rcases hb5 g hg with h | h
      · exact .inl h
      · exact .inr (Nat.le_trans hE4.size h)
    by_cases h2 : n < 65536
    · exact hkey 2 253 (.inl ⟨rfl, rfl⟩) (by unfold wideF; rw [if_neg h1, if_pos h2]) (by unfold sizeF; rw [if_neg h1, if_pos h2])
    by_cases h3 : n < 4294967296
    · exact hkey 4 254 (.inr (.inl ⟨rfl, rfl⟩)) (by unfold wideF; rw [if_neg h1, if_neg h2, if_pos h3]) (by unfold sizeF; rw [if_neg h1, if_neg h2, if_pos h3])
    · exact hkey 8 255 (.inr (.inr ⟨rfl, rfl⟩)) (by unfold wideF; rw [if_neg h1, if_neg h2, if_neg h3]) (by unfold sizeF; rw [if_neg h1, if_neg h2, if_neg h3])
theorem sizeF_len {n : Int} : 1 ≤ (sizeF n).length ∧ (sizeF n).length ≤ 9 := by
  unfold sizeF; split <;> (try split) <;> (try split) <;> simp [lowF_len]
theorem sizeF_byt {n : Int} (h : 0 ≤ n) : byt (sizeF n) := by
  unfold sizeF
  split
  · intro b hb; simp at hb; subst hb; omega
  · split
    · intro b hb; rcases List.mem_cons.1 hb with rfl | hb; omega; exact lowF_byt _ _ b hb
    · split
      · intro b hb; rcases List.mem_cons.1 hb with rfl | hb; omega; exact lowF_byt _ _ b hb
      · intro b hb; rcases List.mem_cons.1 hb with rfl | hb; omega; exact lowF_byt _ _ b hb

/-- A size, and bytes. -/
theorem bytes_ok (w : World) (p : Nat) (v : Value) (bs : List Int) (x : Value) (news : List Int) (h : WAt w p v bs) (hx : Rd w x news) (hxs : ∀ w', Keep (WS p v) w w' → Rd w' x news) (hl : bs.length + news.length ≤ 900000) :
    Calls Try.prog 4 #[.pointer (some ⟨p, 0, none⟩), x] w (Ret fun _ w' => WTo w w' p v (bs ++ (sizeF news.length ++ news))) := by
  refine calls_of_cfg c4_ok (Nat.le_of_ble_eq_true rfl) ?_
  simp only [argE_nil, argE_cons, Nat.reduceAdd, Nat.zero_add]
  have hlen := hx.len
  have hw : IntKind.u64.wrap (news.length : Int) = news.length := by rw [wrap_u64]; omega
  (refine W_at c4_ok ?_; refine ⟨_, rfl, ?_⟩; simp (disch := first | omega | assumption | rfl | (simp only [vcS] <;> omega) | fail) only [↓ptV_l, ↓vcA, vcB, ↓vcD, vcE, ↓reduceIte, Nat.reduceEqDiff, Nat.reduceAdd, Nat.reduceMul, Nat.reduceLeDiff, Int.reduceLE, Int.reduceLT, Int.reduceEq, Int.reduceToNat, Int.reduceAdd, Int.reduceSub, Int.reduceMul, Int.reduceNeg, reduceCtorEq, Option.bind_some, Option.map_some, List.length_cons, List.length_nil, vcM, List.getElem?_toArray, List.getElem?_cons_zero, List.getElem?_cons_succ, hlen, hw])
  refine callV_ret (size_ok w p v bs news.length h (by omega) (by omega)) ?_
  intro _ w1 hT
  obtain ⟨⟨v', hW, hb⟩, hk⟩ := hT
  (refine W_at c4_ok ?_; refine ⟨_, rfl, ?_⟩; simp (disch := first | omega | assumption | rfl | (simp only [vcS] <;> omega) | fail) only [↓ptV_l, ↓vcA, vcB, ↓vcD, vcE, ↓reduceIte, Nat.reduceEqDiff, Nat.reduceAdd, Nat.reduceMul, Nat.reduceLeDiff, Int.reduceLE, Int.reduceLT, Int.reduceEq, Int.reduceToNat, Int.reduceAdd, Int.reduceSub, Int.reduceMul, Int.reduceNeg, reduceCtorEq, Option.bind_some, Option.map_some, List.length_cons, List.length_nil, vcM, List.getElem?_toArray, List.getElem?_cons_zero, List.getElem?_cons_succ])
  have hsl := @sizeF_len news.length
  refine callV_ret (raw_ok w1 p v' _ x news hW (hxs w1 hk) (by simp; omega)) ?_
  intro _ w2 hT
  (refine W_at c4_ok ?_; refine ⟨_, rfl, ?_⟩; simp (disch := first | omega | assumption | rfl | (simp only [vcS] <;> omega) | fail) only [↓ptV_l, ↓vcA, vcB, ↓vcD, vcE, ↓reduceIte, Nat.reduceEqDiff, Nat.reduceAdd, Nat.reduceMul, Nat.reduceLeDiff, Int.reduceLE, Int.reduceLT, Int.reduceEq, Int.reduceToNat, Int.reduceAdd, Int.reduceSub, Int.reduceMul, Int.reduceNeg, reduceCtorEq, Option.bind_some, Option.map_some, List.length_cons, List.length_nil, vcM, List.getElem?_toArray, List.getElem?_cons_zero, List.getElem?_cons_succ, Ret_returned])
  rw [← List.append_assoc]
  exact WTo.trans hk hb hT
end Go.Proofs
