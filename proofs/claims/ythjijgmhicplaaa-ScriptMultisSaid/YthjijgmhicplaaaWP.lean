/- Lists that share no memory. -/
import Derived.Test.YthjijgmhicplaaaWO
set_option linter.unusedSimpArgs false
set_option linter.unusedVariables false
set_option linter.constructorNameAsVariable false
namespace Go.Proofs
open Go.Vc
set_option maxRecDepth 10000

/-- Slices of bytes, each of its own. -/
structure OwnL (w : World) (vs : List Value) (st : Nat → List Int) : Prop where
  own : ∀ j (h : j < vs.length), Own1 w vs[j] (st j)
  len : ∀ j, (st j).length ≤ 100000000
def Dist (vs : List Value) : Prop := ∀ i j (hi : i < vs.length) (hj : j < vs.length) g, blk vs[i] g → blk vs[j] g → i = j
def inL (vs : List Value) (g : Nat) : Prop := ∃ j, ∃ h : j < vs.length, blk vs[j] g
theorem OwnL.keep {S : Nat → Prop} {w w' : World} {vs : List Value} {st : Nat → List Int} (h : OwnL w vs st) (k : Keep S w w') (hS : ∀ g, inL vs g → ¬ S g) : OwnL w' vs st :=
  ⟨fun j hj => (h.own j hj).keep k fun g hg => hS g ⟨j, hj, hg⟩, h.len⟩
def upd (st : Nat → List Int) (i : Nat) (l : List Int) : Nat → List Int := fun j => if j = i then l else st j
theorem upd_at (st : Nat → List Int) (i : Nat) (l : List Int) : upd st i l i = l := if_pos rfl
theorem upd_ne (st : Nat → List Int) {i j : Nat} (l : List Int) (h : j ≠ i) : upd st i l j = st j := if_neg h
theorem OwnL.set {w : World} {vs : List Value} {st : Nat → List Int} (h : OwnL w vs st) (hd : Dist vs) {i k : Nat} (hi : i < vs.length) (hk : k < (st i).length) (x : Int) :
    ∃ g c, vs[i] = .slice (some ⟨g, 0, none⟩) (st i).length c ∧ blk vs[i] g ∧ wr1 w g k ∧ OwnL (w.setCell ⟨g, k, none⟩ (.int .u8 x)) vs (upd st i ((st i).set k x)) := by
  obtain ⟨g, c, e, h1, h2⟩ := (h.own i hi).set hk x
  have hb : blk vs[i] g := by rw [e]; rfl
  refine ⟨g, c, e, hb, h1, fun j hj => ?_, fun j => ?_⟩
  · by_cases hji : j = i
    · subst hji; rw [upd_at]; exact h2
    · rw [upd_ne _ _ hji]
      exact (h.own j hj).keep ((Keep.refl _ w).setCell (S := fun q => q = g) _ fun _ => rfl) fun q hq (eq : q = g) => hji (hd j i hj hi g (eq ▸ hq) hb)
  · by_cases hji : j = i
    · subst hji; rw [upd_at, List.length_set]; exact h.len j
    · rw [upd_ne _ _ hji]; exact h.len j
theorem cell_vs {w : World} {q : Option Addr} {n c : Nat} {vs : List Value} (h : rdS w 1 (.slice q n c) = some vs.toArray) (hl : vs.length = n) {i : Nat} (hi : i < n) :
    ∃ b o, q = some ⟨b, o, none⟩ ∧ cellO w.heap[b]? (o + i) = some (vs[i]'(by omega)) := by
  have hf : (vs.map fun v => #[v]).flatMap Array.toList = vs := by
    clear h hl
    induction vs with
    | nil => rfl
    | cons v vs ih => simp only [List.map_cons, List.flatMap_cons, ih]; rfl
  rw [← hf] at h
  obtain ⟨b, o, rfl, h1⟩ := rdS_at (size := 1) h (by simpa using hl) (fun x hx => by simp at hx; obtain ⟨v, _, rfl⟩ := hx; rfl) hi
  have h2 := rdO_cell h1 (j := 0) (by omega)
  refine ⟨b, o, rfl, ?_⟩
  simpa using h2
/-- What is written over. -/
def apB (i k : Nat) : Int := IntKind.u8.wrap (IntKind.i64.wrap (IntKind.i64.wrap (7 * (i : Int)) + (k : Int)))
def apF (i m : Nat) : List Int := (List.range m).map (apB i)
theorem apF_succ (i m : Nat) : apF i (m + 1) = apF i m ++ [apB i m] := by simp [apF, List.range_succ]
theorem apF_len (i m : Nat) : (apF i m).length = m := by simp [apF]

set_option maxHeartbeats 1600000 in
theorem apart_ok (w : World) (q : Option Addr) (n c : Nat) (vs : List Value) (st : Nat → List Int) (hr : rdS w 1 (.slice q n c) = some vs.toArray) (hl : vs.length = n) (hn : n ≤ 1000000) (hq : ∀ a, q = some a → ¬ inL vs a.block)
    (ho : OwnL w vs st) (hd : Dist vs) :
    Calls Try.prog 25 #[.slice q n c] w (Ret fun u w' => u = .bool true ∧ Keep (inL vs) w w') := by
  refine calls_of_cfg c25_ok (Nat.le_of_ble_eq_true rfl) ?_
  simp only [argE_nil, argE_cons, Nat.reduceAdd, Nat.zero_add]
  have hrK : ∀ wz, Keep (inL vs) w wz → rdS wz 1 (.slice q n c) = some vs.toArray := fun wz hk => rdS_keep hr hk fun b hb => by
    cases q with
    | none => cases hb
    | some a => cases hb; exact hq a rfl
  have wone : ∀ i : Nat, i < 1000000000 → IntKind.i64.wrap ((i : Int) + 1) = ((i + 1 : Nat) : Int) := fun i h => wrap_i64 (by omega) (by omega)
  obtain ⟨ms, hms⟩ : ∃ ms : Nat → Nat, ∀ j, ms j = (st j).length := ⟨_, fun _ => rfl⟩
  have hmsb : ∀ j, ms j ≤ 100000000 := fun j => by rw [hms]; exact ho.len j
  -- the third loop
  have L3 : ∀ (wj : World), OwnL wj vs (fun j => apF j (ms j)) → Keep (inL vs) w wj → ∀ (k i : Nat), k + i = n → W Try.prog (Ret fun u w' => u = .bool true ∧ Keep (inL vs) w w') 25 15 [(0, .slice q n c), (7, .int .i64 i)] wj := by
    intro wj hO hK k
    induction k with
    | zero =>
      intro i hi
      have hlt : ¬ ((i : Int) < n) := by omega
      (refine W_at c25_ok ?_; refine ⟨_, rfl, ?_⟩; simp (disch := first | omega | assumption | rfl | (simp only [vcS] <;> omega) | fail) only [↓ptV_l, ↓vcA, vcB, ↓vcD, vcE, ↓reduceIte, Nat.reduceEqDiff, Nat.reduceAdd, Nat.reduceMul, Nat.reduceLeDiff, Int.reduceLE, Int.reduceLT, Int.reduceEq, Int.reduceToNat, Int.reduceAdd, Int.reduceSub, Int.reduceMul, Int.reduceNeg, reduceCtorEq, Option.bind_some, Option.map_some, List.length_cons, List.length_nil, vcM, List.getElem?_toArray, List.getElem?_cons_zero, List.getElem?_cons_succ, hlt])
      (refine W_at c25_ok ?_; refine ⟨_, rfl, ?_⟩; simp (disch := first | omega | assumption | rfl | (simp only [vcS] <;> omega) | fail) only [↓ptV_l, ↓vcA, vcB, ↓vcD, vcE, ↓reduceIte, Nat.reduceEqDiff, Nat.reduceAdd, Nat.reduceMul, Nat.reduceLeDiff, Int.reduceLE, Int.reduceLT, Int.reduceEq, Int.reduceToNat, Int.reduceAdd, Int.reduceSub, Int.reduceMul, Int.reduceNeg, reduceCtorEq, Option.bind_some, Option.map_some, List.length_cons, List.length_nil, vcM, List.getElem?_toArray, List.getElem?_cons_zero, List.getElem?_cons_succ])
      (refine W_at c25_ok ?_; refine ⟨_, rfl, ?_⟩; simp (disch := first | omega | assumption | rfl | (simp only [vcS] <;> omega) | fail) only [↓ptV_l, ↓vcA, vcB, ↓vcD, vcE, ↓reduceIte, Nat.reduceEqDiff, Nat.reduceAdd, Nat.reduceMul, Nat.reduceLeDiff, Int.reduceLE, Int.reduceLT, Int.reduceEq, Int.reduceToNat, Int.reduceAdd, Int.reduceSub, Int.reduceMul, Int.reduceNeg, reduceCtorEq, Option.bind_some, Option.map_some, List.length_cons, List.length_nil, vcM, List.getElem?_toArray, List.getElem?_cons_zero, List.getElem?_cons_succ])
      (refine W_at c25_ok ?_; refine ⟨_, rfl, ?_⟩; simp (disch := first | omega | assumption | rfl | (simp only [vcS] <;> omega) | fail) only [↓ptV_l, ↓vcA, vcB, ↓vcD, vcE, ↓reduceIte, Nat.reduceEqDiff, Nat.reduceAdd, Nat.reduceMul, Nat.reduceLeDiff, Int.reduceLE, Int.reduceLT, Int.reduceEq, Int.reduceToNat, Int.reduceAdd, Int.reduceSub, Int.reduceMul, Int.reduceNeg, reduceCtorEq, Option.bind_some, Option.map_some, List.length_cons, List.length_nil, vcM, List.getElem?_toArray, List.getElem?_cons_zero, List.getElem?_cons_succ, Ret_returned])
      exact hK
    | succ k ih =>
      intro i hi
      have hlt : (i : Int) < n := by omega
      have hi2 : 0 ≤ (i : Int) ∧ (i : Int) < n := by omega
      have hil : i < vs.length := by omega
      obtain ⟨b, o, rfl, hcell⟩ := cell_vs (hrK wj hK) hl (i := i) (by omega)
      have hwi := wone i (by omega)
      have hob := (hO.own i hil).rd
      have hle := hob.len
      rw [apF_len] at hle
      (refine W_at c25_ok ?_; refine ⟨_, rfl, ?_⟩; simp (disch := first | omega | assumption | rfl | (simp only [vcS] <;> omega) | fail) only [↓ptV_l, ↓vcA, vcB, ↓vcD, vcE, ↓reduceIte, Nat.reduceEqDiff, Nat.reduceAdd, Nat.reduceMul, Nat.reduceLeDiff, Int.reduceLE, Int.reduceLT, Int.reduceEq, Int.reduceToNat, Int.reduceAdd, Int.reduceSub, Int.reduceMul, Int.reduceNeg, reduceCtorEq, Option.bind_some, Option.map_some, List.length_cons, List.length_nil, vcM, List.getElem?_toArray, List.getElem?_cons_zero, List.getElem?_cons_succ, hlt])
      (refine W_at c25_ok ?_; refine ⟨_, rfl, ?_⟩; simp (disch := first | omega | assumption | rfl | (simp only [vcS] <;> omega) | fail) only [↓ptV_l, ↓vcA, vcB, ↓vcD, vcE, ↓reduceIte, Nat.reduceEqDiff, Nat.reduceAdd, Nat.reduceMul, Nat.reduceLeDiff, Int.reduceLE, Int.reduceLT, Int.reduceEq, Int.reduceToNat, Int.reduceAdd, Int.reduceSub, Int.reduceMul, Int.reduceNeg, reduceCtorEq, Option.bind_some, Option.map_some, List.length_cons, List.length_nil, vcM, List.getElem?_toArray, List.getElem?_cons_zero, List.getElem?_cons_succ])
      (refine W_at c25_ok ?_; refine ⟨_, rfl, ?_⟩; simp (disch := first | omega | assumption | rfl | (simp only [vcS] <;> omega) | fail) only [↓ptV_l, ↓vcA, vcB, ↓vcD, vcE, ↓reduceIte, Nat.reduceEqDiff, Nat.reduceAdd, Nat.reduceMul, Nat.reduceLeDiff, Int.reduceLE, Int.reduceLT, Int.reduceEq, Int.reduceToNat, Int.reduceAdd, Int.reduceSub, Int.reduceMul, Int.reduceNeg, reduceCtorEq, Option.bind_some, Option.map_some, List.length_cons, List.length_nil, vcM, List.getElem?_toArray, List.getElem?_cons_zero, List.getElem?_cons_succ])
      have L3i : ∀ (k t : Nat), k + t = ms i → W Try.prog (Ret fun u w' => u = .bool true ∧ Keep (inL vs) w w') 25 12 [(0, .slice (some ⟨b, o, none⟩) n c), (7, .int .i64 i), (8, .int .i64 t)] wj := by
        intro k
        induction k with
        | zero =>
          intro t ht
          have hlt2 : ¬ ((t : Int) < (ms i : Nat)) := by omega
          (refine W_at c25_ok ?_; refine ⟨_, rfl, ?_⟩; simp (disch := first | omega | assumption | rfl | (simp only [vcS] <;> omega) | fail) only [↓ptV_l, ↓vcA, vcB, ↓vcD, vcE, ↓reduceIte, Nat.reduceEqDiff, Nat.reduceAdd, Nat.reduceMul, Nat.reduceLeDiff, Int.reduceLE, Int.reduceLT, Int.reduceEq, Int.reduceToNat, Int.reduceAdd, Int.reduceSub, Int.reduceMul, Int.reduceNeg, reduceCtorEq, Option.bind_some, Option.map_some, List.length_cons, List.length_nil, vcM, List.getElem?_toArray, List.getElem?_cons_zero, List.getElem?_cons_succ, hi2, Int.toNat_natCast, Nat.mul_one, hcell, hle, hlt2])
          (refine W_at c25_ok ?_; refine ⟨_, rfl, ?_⟩; simp (disch := first | omega | assumption | rfl | (simp only [vcS] <;> omega) | fail) only [↓ptV_l, ↓vcA, vcB, ↓vcD, vcE, ↓reduceIte, Nat.reduceEqDiff, Nat.reduceAdd, Nat.reduceMul, Nat.reduceLeDiff, Int.reduceLE, Int.reduceLT, Int.reduceEq, Int.reduceToNat, Int.reduceAdd, Int.reduceSub, Int.reduceMul, Int.reduceNeg, reduceCtorEq, Option.bind_some, Option.map_some, List.length_cons, List.length_nil, vcM, List.getElem?_toArray, List.getElem?_cons_zero, List.getElem?_cons_succ])
          (refine W_at c25_ok ?_; refine ⟨_, rfl, ?_⟩; simp (disch := first | omega | assumption | rfl | (simp only [vcS] <;> omega) | fail) only [↓ptV_l, ↓vcA, vcB, ↓vcD, vcE, ↓reduceIte, Nat.reduceEqDiff, Nat.reduceAdd, Nat.reduceMul, Nat.reduceLeDiff, Int.reduceLE, Int.reduceLT, Int.reduceEq, Int.reduceToNat, Int.reduceAdd, Int.reduceSub, Int.reduceMul, Int.reduceNeg, reduceCtorEq, Option.bind_some, Option.map_some, List.length_cons, List.length_nil, vcM, List.getElem?_toArray, List.getElem?_cons_zero, List.getElem?_cons_succ, hwi])
          (refine W_at c25_ok ?_; refine ⟨_, rfl, ?_⟩; simp (disch := first | omega | assumption | rfl | (simp only [vcS] <;> omega) | fail) only [↓ptV_l, ↓vcA, vcB, ↓vcD, vcE, ↓reduceIte, Nat.reduceEqDiff, Nat.reduceAdd, Nat.reduceMul, Nat.reduceLeDiff, Int.reduceLE, Int.reduceLT, Int.reduceEq, Int.reduceToNat, Int.reduceAdd, Int.reduceSub, Int.reduceMul, Int.reduceNeg, reduceCtorEq, Option.bind_some, Option.map_some, List.length_cons, List.length_nil, vcM, List.getElem?_toArray, List.getElem?_cons_zero, List.getElem?_cons_succ])
          exact ih (i + 1) (by omega)
        | succ k ih2 =>
          intro t ht
          have hlt2 : (t : Int) < (ms i : Nat) := by omega
          have hmi := hmsb i
          have hwt := wone t (by omega)
          have htl : t < (apF i (ms i)).length := by rw [apF_len]; omega
          obtain ⟨b2, o2, c2, e2, hc2⟩ := hob.at htl
          have hat : (apF i (ms i))[t] = apB i t := by simp [apF]
          rw [hat] at hc2
          rw [apF_len] at e2
          rw [e2] at hcell
          have ht2 : 0 ≤ (t : Int) ∧ (t : Int) < (ms i : Nat) := by omega
          have hap : IntKind.u8.wrap (IntKind.i64.wrap (IntKind.i64.wrap (7 * (i : Int)) + (t : Int))) = apB i t := rfl
          (refine W_at c25_ok ?_; refine ⟨_, rfl, ?_⟩; simp (disch := first | omega | assumption | rfl | (simp only [vcS] <;> omega) | fail) only [↓ptV_l, ↓vcA, vcB, ↓vcD, vcE, ↓reduceIte, Nat.reduceEqDiff, Nat.reduceAdd, Nat.reduceMul, Nat.reduceLeDiff, Int.reduceLE, Int.reduceLT, Int.reduceEq, Int.reduceToNat, Int.reduceAdd, Int.reduceSub, Int.reduceMul, Int.reduceNeg, reduceCtorEq, Option.bind_some, Option.map_some, List.length_cons, List.length_nil, vcM, List.getElem?_toArray, List.getElem?_cons_zero, List.getElem?_cons_succ, hi2, Int.toNat_natCast, Nat.mul_one, hcell, hlt2])
          (refine W_at c25_ok ?_; refine ⟨_, rfl, ?_⟩; simp (disch := first | omega | assumption | rfl | (simp only [vcS] <;> omega) | fail) only [↓ptV_l, ↓vcA, vcB, ↓vcD, vcE, ↓reduceIte, Nat.reduceEqDiff, Nat.reduceAdd, Nat.reduceMul, Nat.reduceLeDiff, Int.reduceLE, Int.reduceLT, Int.reduceEq, Int.reduceToNat, Int.reduceAdd, Int.reduceSub, Int.reduceMul, Int.reduceNeg, reduceCtorEq, Option.bind_some, Option.map_some, List.length_cons, List.length_nil, vcM, List.getElem?_toArray, List.getElem?_cons_zero, List.getElem?_cons_succ])
          (refine W_at c25_ok ?_; refine ⟨_, rfl, ?_⟩; simp (disch := first | omega | assumption | rfl | (simp only [vcS] <;> omega) | fail) only [↓ptV_l, ↓vcA, vcB, ↓vcD, vcE, ↓reduceIte, Nat.reduceEqDiff, Nat.reduceAdd, Nat.reduceMul, Nat.reduceLeDiff, Int.reduceLE, Int.reduceLT, Int.reduceEq, Int.reduceToNat, Int.reduceAdd, Int.reduceSub, Int.reduceMul, Int.reduceNeg, reduceCtorEq, Option.bind_some, Option.map_some, List.length_cons, List.length_nil, vcM, List.getElem?_toArray, List.getElem?_cons_zero, List.getElem?_cons_succ, hi2, ht2, Int.toNat_natCast, Nat.mul_one, hcell, hc2, hap])
          (refine W_at c25_ok ?_; refine ⟨_, rfl, ?_⟩; simp (disch := first | omega | assumption | rfl | (simp only [vcS] <;> omega) | fail) only [↓ptV_l, ↓vcA, vcB, ↓vcD, vcE, ↓reduceIte, Nat.reduceEqDiff, Nat.reduceAdd, Nat.reduceMul, Nat.reduceLeDiff, Int.reduceLE, Int.reduceLT, Int.reduceEq, Int.reduceToNat, Int.reduceAdd, Int.reduceSub, Int.reduceMul, Int.reduceNeg, reduceCtorEq, Option.bind_some, Option.map_some, List.length_cons, List.length_nil, vcM, List.getElem?_toArray, List.getElem?_cons_zero, List.getElem?_cons_succ])
          (refine W_at c25_ok ?_; refine ⟨_, rfl, ?_⟩; simp (disch := first | omega | assumption | rfl | (simp only [vcS] <;> omega) | fail) only [↓ptV_l, ↓vcA, vcB, ↓vcD, vcE, ↓reduceIte, Nat.reduceEqDiff, Nat.reduceAdd, Nat.reduceMul, Nat.reduceLeDiff, Int.reduceLE, Int.reduceLT, Int.reduceEq, Int.reduceToNat, Int.reduceAdd, Int.reduceSub, Int.reduceMul, Int.reduceNeg, reduceCtorEq, Option.bind_some, Option.map_some, List.length_cons, List.length_nil, vcM, List.getElem?_toArray, List.getElem?_cons_zero, List.getElem?_cons_succ, hwt])
          (refine W_at c25_ok ?_; refine ⟨_, rfl, ?_⟩; simp (disch := first | omega | assumption | rfl | (simp only [vcS] <;> omega) | fail) only [↓ptV_l, ↓vcA, vcB, ↓vcD, vcE, ↓reduceIte, Nat.reduceEqDiff, Nat.reduceAdd, Nat.reduceMul, Nat.reduceLeDiff, Int.reduceLE, Int.reduceLT, Int.reduceEq, Int.reduceToNat, Int.reduceAdd, Int.reduceSub, Int.reduceMul, Int.reduceNeg, reduceCtorEq, Option.bind_some, Option.map_some, List.length_cons, List.length_nil, vcM, List.getElem?_toArray, List.getElem?_cons_zero, List.getElem?_cons_succ])
          exact ih2 (t + 1) (by omega)
      exact L3i (ms i) 0 (by omega)
  -- the second loop
  have L2 : ∀ (k i : Nat) (wj : World), OwnL wj vs (fun j => apF j (ms j)) → Keep (inL vs) w wj → k + i = n → W Try.prog (Ret fun u w' => u = .bool true ∧ Keep (inL vs) w w') 25 22 [(0, .slice q n c), (5, .int .i64 i)] wj := by
    intro k
    induction k with
    | zero =>
      intro i wj hO hK hi
      have hlt : ¬ ((i : Int) < n) := by omega
      (refine W_at c25_ok ?_; refine ⟨_, rfl, ?_⟩; simp (disch := first | omega | assumption | rfl | (simp only [vcS] <;> omega) | fail) only [↓ptV_l, ↓vcA, vcB, ↓vcD, vcE, ↓reduceIte, Nat.reduceEqDiff, Nat.reduceAdd, Nat.reduceMul, Nat.reduceLeDiff, Int.reduceLE, Int.reduceLT, Int.reduceEq, Int.reduceToNat, Int.reduceAdd, Int.reduceSub, Int.reduceMul, Int.reduceNeg, reduceCtorEq, Option.bind_some, Option.map_some, List.length_cons, List.length_nil, vcM, List.getElem?_toArray, List.getElem?_cons_zero, List.getElem?_cons_succ, hlt])
      (refine W_at c25_ok ?_; refine ⟨_, rfl, ?_⟩; simp (disch := first | omega | assumption | rfl | (simp only [vcS] <;> omega) | fail) only [↓ptV_l, ↓vcA, vcB, ↓vcD, vcE, ↓reduceIte, Nat.reduceEqDiff, Nat.reduceAdd, Nat.reduceMul, Nat.reduceLeDiff, Int.reduceLE, Int.reduceLT, Int.reduceEq, Int.reduceToNat, Int.reduceAdd, Int.reduceSub, Int.reduceMul, Int.reduceNeg, reduceCtorEq, Option.bind_some, Option.map_some, List.length_cons, List.length_nil, vcM, List.getElem?_toArray, List.getElem?_cons_zero, List.getElem?_cons_succ])
      (refine W_at c25_ok ?_; refine ⟨_, rfl, ?_⟩; simp (disch := first | omega | assumption | rfl | (simp only [vcS] <;> omega) | fail) only [↓ptV_l, ↓vcA, vcB, ↓vcD, vcE, ↓reduceIte, Nat.reduceEqDiff, Nat.reduceAdd, Nat.reduceMul, Nat.reduceLeDiff, Int.reduceLE, Int.reduceLT, Int.reduceEq, Int.reduceToNat, Int.reduceAdd, Int.reduceSub, Int.reduceMul, Int.reduceNeg, reduceCtorEq, Option.bind_some, Option.map_some, List.length_cons, List.length_nil, vcM, List.getElem?_toArray, List.getElem?_cons_zero, List.getElem?_cons_succ])
      exact L3 wj hO hK n 0 (by omega)
    | succ k ih =>
      intro i wj hO hK hi
      have hlt : (i : Int) < n := by omega
      have hi2 : 0 ≤ (i : Int) ∧ (i : Int) < n := by omega
      have hil : i < vs.length := by omega
      obtain ⟨b, o, rfl, hcell⟩ := cell_vs (hrK wj hK) hl (i := i) (by omega)
      have hwi := wone i (by omega)
      have hob := hO.own i hil
      have hmi := hmsb i
      (refine W_at c25_ok ?_; refine ⟨_, rfl, ?_⟩; simp (disch := first | omega | assumption | rfl | (simp only [vcS] <;> omega) | fail) only [↓ptV_l, ↓vcA, vcB, ↓vcD, vcE, ↓reduceIte, Nat.reduceEqDiff, Nat.reduceAdd, Nat.reduceMul, Nat.reduceLeDiff, Int.reduceLE, Int.reduceLT, Int.reduceEq, Int.reduceToNat, Int.reduceAdd, Int.reduceSub, Int.reduceMul, Int.reduceNeg, reduceCtorEq, Option.bind_some, Option.map_some, List.length_cons, List.length_nil, vcM, List.getElem?_toArray, List.getElem?_cons_zero, List.getElem?_cons_succ, hlt])
      (refine W_at c25_ok ?_; refine ⟨_, rfl, ?_⟩; simp (disch := first | omega | assumption | rfl | (simp only [vcS] <;> omega) | fail) only [↓ptV_l, ↓vcA, vcB, ↓vcD, vcE, ↓reduceIte, Nat.reduceEqDiff, Nat.reduceAdd, Nat.reduceMul, Nat.reduceLeDiff, Int.reduceLE, Int.reduceLT, Int.reduceEq, Int.reduceToNat, Int.reduceAdd, Int.reduceSub, Int.reduceMul, Int.reduceNeg, reduceCtorEq, Option.bind_some, Option.map_some, List.length_cons, List.length_nil, vcM, List.getElem?_toArray, List.getElem?_cons_zero, List.getElem?_cons_succ])
      (refine W_at c25_ok ?_; refine ⟨_, rfl, ?_⟩; simp (disch := first | omega | assumption | rfl | (simp only [vcS] <;> omega) | fail) only [↓ptV_l, ↓vcA, vcB, ↓vcD, vcE, ↓reduceIte, Nat.reduceEqDiff, Nat.reduceAdd, Nat.reduceMul, Nat.reduceLeDiff, Int.reduceLE, Int.reduceLT, Int.reduceEq, Int.reduceToNat, Int.reduceAdd, Int.reduceSub, Int.reduceMul, Int.reduceNeg, reduceCtorEq, Option.bind_some, Option.map_some, List.length_cons, List.length_nil, vcM, List.getElem?_toArray, List.getElem?_cons_zero, List.getElem?_cons_succ, hi2, Int.toNat_natCast, Nat.mul_one, hcell])
      refine appLH (bs := apF i (ms i)) (news := [99, 98, 97]) hob (by rw [apF_len]; simp; omega) fun v' wz h1 h2 h3 h4 => ?_
      have hlz := h1.rd.len
      have hl3 : (apF i (ms i) ++ [99, 98, 97]).length = ms i + 3 := by rw [List.length_append, apF_len]; rfl
      rw [hl3] at hlz
      have hw1 : IntKind.i64.wrap (((ms i + 3 : Nat) : Int) - 1) = ((ms i + 2 : Nat) : Int) := by rw [wrap_i64 (by omega) (by omega)]; omega
      have hi3 : 0 ≤ ((ms i + 2 : Nat) : Int) ∧ ((ms i + 2 : Nat) : Int) < ((ms i + 3 : Nat) : Int) := by omega
      obtain ⟨g, cg, e2, hwr, _⟩ := h1.set (i := ms i + 2) (by omega) 96
      rw [hl3] at e2
      have hbg : blk v' g := by rw [e2]; rfl
      have hK3 : Keep (inL vs) w wz := hK.trans h3 fun j hj hb => ⟨i, hil, hb⟩
      have hK4 : Keep (inL vs) w (wz.setCell ⟨g, ms i + 2, none⟩ (.int .u8 96)) := hK3.setCell _ fun hlt => by
        rcases h4 g hbg with hb | hb
        · exact ⟨i, hil, hb⟩
        · have := hK.size; omega
      have hO4 : OwnL (wz.setCell ⟨g, ms i + 2, none⟩ (.int .u8 96)) vs (fun j => apF j (ms j)) := by
        refine ⟨fun j hj => ?_, fun j => hO.len j⟩
        by_cases hji : j = i
        · subst hji
          exact h2.out (by rw [apF_len]; omega) _
        · have hnb : ∀ q, blk vs[j] q → ¬ blk vs[i] q := fun q hq hq2 => hji (hd j i hj hil q hq hq2)
          have hoj := (hO.own j hj)
          refine ((hoj.keep h3 hnb)).keep ((Keep.refl _ wz).setCell (S := fun q => q = g) _ fun _ => rfl) fun q hq (eq : q = g) => ?_
          subst eq
          rcases h4 q hbg with hb | hb
          · exact hnb q hq hb
          · have := hoj.lt hq; omega
      (refine W_at c25_ok ?_; refine ⟨_, rfl, ?_⟩; simp (disch := first | omega | assumption | rfl | (simp only [vcS] <;> omega) | fail) only [↓ptV_l, ↓vcA, vcB, ↓vcD, vcE, ↓reduceIte, Nat.reduceEqDiff, Nat.reduceAdd, Nat.reduceMul, Nat.reduceLeDiff, Int.reduceLE, Int.reduceLT, Int.reduceEq, Int.reduceToNat, Int.reduceAdd, Int.reduceSub, Int.reduceMul, Int.reduceNeg, reduceCtorEq, Option.bind_some, Option.map_some, List.length_cons, List.length_nil, vcM, List.getElem?_toArray, List.getElem?_cons_zero, List.getElem?_cons_succ, hlz, hw1, e2, hi3, Int.toNat_natCast, Nat.mul_one, Nat.zero_add])
      refine ⟨hwr, ?_⟩
      generalize World.setCell _ _ _ = w9 at hO4 hK4 ⊢
      (refine W_at c25_ok ?_; refine ⟨_, rfl, ?_⟩; simp (disch := first | omega | assumption | rfl | (simp only [vcS] <;> omega) | fail) only [↓ptV_l, ↓vcA, vcB, ↓vcD, vcE, ↓reduceIte, Nat.reduceEqDiff, Nat.reduceAdd, Nat.reduceMul, Nat.reduceLeDiff, Int.reduceLE, Int.reduceLT, Int.reduceEq, Int.reduceToNat, Int.reduceAdd, Int.reduceSub, Int.reduceMul, Int.reduceNeg, reduceCtorEq, Option.bind_some, Option.map_some, List.length_cons, List.length_nil, vcM, List.getElem?_toArray, List.getElem?_cons_zero, List.getElem?_cons_succ, hwi])
      (refine W_at c25_ok ?_; refine ⟨_, rfl, ?_⟩; simp (disch := first | omega | assumption | rfl | (simp only [vcS] <;> omega) | fail) only [↓ptV_l, ↓vcA, vcB, ↓vcD, vcE, ↓reduceIte, Nat.reduceEqDiff, Nat.reduceAdd, Nat.reduceMul, Nat.reduceLeDiff, Int.reduceLE, Int.reduceLT, Int.reduceEq, Int.reduceToNat, Int.reduceAdd, Int.reduceSub, Int.reduceMul, Int.reduceNeg, reduceCtorEq, Option.bind_some, Option.map_some, List.length_cons, List.length_nil, vcM, List.getElem?_toArray, List.getElem?_cons_zero, List.getElem?_cons_succ])
      exact ih (i + 1) w9 hO4 hK4 (by omega)
  -- the first loop
  have L1 : ∀ (k i : Nat) (wj : World), OwnL wj vs (fun j => if j < i then apF j (ms j) else st j) → Keep (inL vs) w wj → k + i = n → W Try.prog (Ret fun u w' => u = .bool true ∧ Keep (inL vs) w w') 25 33 [(0, .slice q n c), (3, .int .i64 i)] wj := by
    intro k
    induction k with
    | zero =>
      intro i wj hO hK hi
      have hlt : ¬ ((i : Int) < n) := by omega
      (refine W_at c25_ok ?_; refine ⟨_, rfl, ?_⟩; simp (disch := first | omega | assumption | rfl | (simp only [vcS] <;> omega) | fail) only [↓ptV_l, ↓vcA, vcB, ↓vcD, vcE, ↓reduceIte, Nat.reduceEqDiff, Nat.reduceAdd, Nat.reduceMul, Nat.reduceLeDiff, Int.reduceLE, Int.reduceLT, Int.reduceEq, Int.reduceToNat, Int.reduceAdd, Int.reduceSub, Int.reduceMul, Int.reduceNeg, reduceCtorEq, Option.bind_some, Option.map_some, List.length_cons, List.length_nil, vcM, List.getElem?_toArray, List.getElem?_cons_zero, List.getElem?_cons_succ, hlt])
      (refine W_at c25_ok ?_; refine ⟨_, rfl, ?_⟩; simp (disch := first | omega | assumption | rfl | (simp only [vcS] <;> omega) | fail) only [↓ptV_l, ↓vcA, vcB, ↓vcD, vcE, ↓reduceIte, Nat.reduceEqDiff, Nat.reduceAdd, Nat.reduceMul, Nat.reduceLeDiff, Int.reduceLE, Int.reduceLT, Int.reduceEq, Int.reduceToNat, Int.reduceAdd, Int.reduceSub, Int.reduceMul, Int.reduceNeg, reduceCtorEq, Option.bind_some, Option.map_some, List.length_cons, List.length_nil, vcM, List.getElem?_toArray, List.getElem?_cons_zero, List.getElem?_cons_succ])
      (refine W_at c25_ok ?_; refine ⟨_, rfl, ?_⟩; simp (disch := first | omega | assumption | rfl | (simp only [vcS] <;> omega) | fail) only [↓ptV_l, ↓vcA, vcB, ↓vcD, vcE, ↓reduceIte, Nat.reduceEqDiff, Nat.reduceAdd, Nat.reduceMul, Nat.reduceLeDiff, Int.reduceLE, Int.reduceLT, Int.reduceEq, Int.reduceToNat, Int.reduceAdd, Int.reduceSub, Int.reduceMul, Int.reduceNeg, reduceCtorEq, Option.bind_some, Option.map_some, List.length_cons, List.length_nil, vcM, List.getElem?_toArray, List.getElem?_cons_zero, List.getElem?_cons_succ])
      refine L2 n 0 wj ⟨fun j hj => ?_, fun j => by rw [apF_len]; exact hmsb j⟩ hK (by omega)
      have := hO.own j hj
      rw [if_pos (by omega)] at this
      exact this
    | succ k ih =>
      intro i wj hO hK hi
      have hlt : (i : Int) < n := by omega
      have hi2 : 0 ≤ (i : Int) ∧ (i : Int) < n := by omega
      have hil : i < vs.length := by omega
      have hwi := wone i (by omega)
      have hmi := hmsb i
      (refine W_at c25_ok ?_; refine ⟨_, rfl, ?_⟩; simp (disch := first | omega | assumption | rfl | (simp only [vcS] <;> omega) | fail) only [↓ptV_l, ↓vcA, vcB, ↓vcD, vcE, ↓reduceIte, Nat.reduceEqDiff, Nat.reduceAdd, Nat.reduceMul, Nat.reduceLeDiff, Int.reduceLE, Int.reduceLT, Int.reduceEq, Int.reduceToNat, Int.reduceAdd, Int.reduceSub, Int.reduceMul, Int.reduceNeg, reduceCtorEq, Option.bind_some, Option.map_some, List.length_cons, List.length_nil, vcM, List.getElem?_toArray, List.getElem?_cons_zero, List.getElem?_cons_succ, hlt])
      (refine W_at c25_ok ?_; refine ⟨_, rfl, ?_⟩; simp (disch := first | omega | assumption | rfl | (simp only [vcS] <;> omega) | fail) only [↓ptV_l, ↓vcA, vcB, ↓vcD, vcE, ↓reduceIte, Nat.reduceEqDiff, Nat.reduceAdd, Nat.reduceMul, Nat.reduceLeDiff, Int.reduceLE, Int.reduceLT, Int.reduceEq, Int.reduceToNat, Int.reduceAdd, Int.reduceSub, Int.reduceMul, Int.reduceNeg, reduceCtorEq, Option.bind_some, Option.map_some, List.length_cons, List.length_nil, vcM, List.getElem?_toArray, List.getElem?_cons_zero, List.getElem?_cons_succ])
      (refine W_at c25_ok ?_; refine ⟨_, rfl, ?_⟩; simp (disch := first | omega | assumption | rfl | (simp only [vcS] <;> omega) | fail) only [↓ptV_l, ↓vcA, vcB, ↓vcD, vcE, ↓reduceIte, Nat.reduceEqDiff, Nat.reduceAdd, Nat.reduceMul, Nat.reduceLeDiff, Int.reduceLE, Int.reduceLT, Int.reduceEq, Int.reduceToNat, Int.reduceAdd, Int.reduceSub, Int.reduceMul, Int.reduceNeg, reduceCtorEq, Option.bind_some, Option.map_some, List.length_cons, List.length_nil, vcM, List.getElem?_toArray, List.getElem?_cons_zero, List.getElem?_cons_succ])
      have L1i : ∀ (k t : Nat) (wz : World) (rest : List Int), k + t = ms i → rest.length = k → OwnL wz vs (upd (fun j => if j < i then apF j (ms j) else st j) i (apF i t ++ rest)) → Keep (inL vs) w wz → W Try.prog (Ret fun u w' => u = .bool true ∧ Keep (inL vs) w w') 25 30 [(0, .slice q n c), (3, .int .i64 i), (4, .int .i64 t)] wz := by
        intro k
        induction k with
        | zero =>
          intro t wz rest ht hrl hO hK
          obtain rfl : rest = [] := List.eq_nil_of_length_eq_zero hrl
          obtain rfl : t = ms i := by omega
          rw [List.append_nil] at hO
          have hle := (hO.own i hil).rd.len
          rw [upd_at, apF_len] at hle
          obtain ⟨b, o, rfl, hcell⟩ := cell_vs (hrK wz hK) hl (i := i) (by omega)
          have hlt2 : ¬ (((ms i : Nat) : Int) < (ms i : Nat)) := by omega
          (refine W_at c25_ok ?_; refine ⟨_, rfl, ?_⟩; simp (disch := first | omega | assumption | rfl | (simp only [vcS] <;> omega) | fail) only [↓ptV_l, ↓vcA, vcB, ↓vcD, vcE, ↓reduceIte, Nat.reduceEqDiff, Nat.reduceAdd, Nat.reduceMul, Nat.reduceLeDiff, Int.reduceLE, Int.reduceLT, Int.reduceEq, Int.reduceToNat, Int.reduceAdd, Int.reduceSub, Int.reduceMul, Int.reduceNeg, reduceCtorEq, Option.bind_some, Option.map_some, List.length_cons, List.length_nil, vcM, List.getElem?_toArray, List.getElem?_cons_zero, List.getElem?_cons_succ, hi2, Int.toNat_natCast, Nat.mul_one, hcell, hle, hlt2])
          (refine W_at c25_ok ?_; refine ⟨_, rfl, ?_⟩; simp (disch := first | omega | assumption | rfl | (simp only [vcS] <;> omega) | fail) only [↓ptV_l, ↓vcA, vcB, ↓vcD, vcE, ↓reduceIte, Nat.reduceEqDiff, Nat.reduceAdd, Nat.reduceMul, Nat.reduceLeDiff, Int.reduceLE, Int.reduceLT, Int.reduceEq, Int.reduceToNat, Int.reduceAdd, Int.reduceSub, Int.reduceMul, Int.reduceNeg, reduceCtorEq, Option.bind_some, Option.map_some, List.length_cons, List.length_nil, vcM, List.getElem?_toArray, List.getElem?_cons_zero, List.getElem?_cons_succ])
          (refine W_at c25_ok ?_; refine ⟨_, rfl, ?_⟩; simp (disch := first | omega | assumption | rfl | (simp only [vcS] <;> omega) | fail) only [↓ptV_l, ↓vcA, vcB, ↓vcD, vcE, ↓reduceIte, Nat.reduceEqDiff, Nat.reduceAdd, Nat.reduceMul, Nat.reduceLeDiff, Int.reduceLE, Int.reduceLT, Int.reduceEq, Int.reduceToNat, Int.reduceAdd, Int.reduceSub, Int.reduceMul, Int.reduceNeg, reduceCtorEq, Option.bind_some, Option.map_some, List.length_cons, List.length_nil, vcM, List.getElem?_toArray, List.getElem?_cons_zero, List.getElem?_cons_succ, hwi])
          (refine W_at c25_ok ?_; refine ⟨_, rfl, ?_⟩; simp (disch := first | omega | assumption | rfl | (simp only [vcS] <;> omega) | fail) only [↓ptV_l, ↓vcA, vcB, ↓vcD, vcE, ↓reduceIte, Nat.reduceEqDiff, Nat.reduceAdd, Nat.reduceMul, Nat.reduceLeDiff, Int.reduceLE, Int.reduceLT, Int.reduceEq, Int.reduceToNat, Int.reduceAdd, Int.reduceSub, Int.reduceMul, Int.reduceNeg, reduceCtorEq, Option.bind_some, Option.map_some, List.length_cons, List.length_nil, vcM, List.getElem?_toArray, List.getElem?_cons_zero, List.getElem?_cons_succ])
          refine ih (i + 1) wz ⟨fun j hj => ?_, fun j => ?_⟩ hK (by omega)
          · have := hO.own j hj
            by_cases hji : j = i
            · subst hji; rw [upd_at] at this; rw [if_pos (by omega)]; exact this
            · rw [upd_ne _ _ hji] at this
              by_cases hjl : j < i
              · rw [if_pos hjl] at this; rw [if_pos (by omega)]; exact this
              · rw [if_neg hjl] at this; rw [if_neg (by omega)]; exact this
          · split
            · rw [apF_len]; exact hmsb j
            · rw [← hms]; exact hmsb j
        | succ k ih2 =>
          intro t wz rest ht hrl hO hK
          obtain ⟨y, rest, rfl⟩ : ∃ y r', rest = y :: r' := by
            cases rest with
            | nil => simp at hrl
            | cons y r' => exact ⟨y, r', rfl⟩
          have hlt2 : (t : Int) < (ms i : Nat) := by omega
          have hwt := wone t (by omega)
          have hll : (upd (fun j => if j < i then apF j (ms j) else st j) i (apF i t ++ y :: rest) i).length = ms i := by rw [upd_at, List.length_append, apF_len, hrl]; omega
          have hle := (hO.own i hil).rd.len
          rw [hll] at hle
          obtain ⟨b, o, rfl, hcell⟩ := cell_vs (hrK wz hK) hl (i := i) (by omega)
          obtain ⟨g, cg, e2, hbg, hw1, hO2⟩ := hO.set hd hil (k := t) (by rw [hll]; omega) (apB i t)
          rw [hll] at e2
          have hset : (upd (fun j => if j < i then apF j (ms j) else st j) i (apF i t ++ y :: rest) i).set t (apB i t) = apF i (t + 1) ++ rest := by
            have := set_mid (apF i t) rest (apB i t) y
            rw [apF_len] at this
            rw [upd_at, this, apF_succ, List.append_assoc]; rfl
          rw [hset] at hO2
          have hO3 : OwnL (wz.setCell ⟨g, t, none⟩ (.int .u8 (apB i t))) vs (upd (fun j => if j < i then apF j (ms j) else st j) i (apF i (t + 1) ++ rest)) := by
            refine ⟨fun j hj => ?_, fun j => ?_⟩
            · have := hO2.own j hj
              by_cases hji : j = i
              · subst hji; rw [upd_at] at this ⊢; exact this
              · rw [upd_ne _ _ hji] at this ⊢; rw [upd_ne _ _ hji] at this; exact this
            · have := hO2.len j
              by_cases hji : j = i
              · subst hji; rw [upd_at] at this ⊢; exact this
              · rw [upd_ne _ _ hji] at this ⊢; rw [upd_ne _ _ hji] at this; exact this
          have hK3 : Keep (inL vs) w (wz.setCell ⟨g, t, none⟩ (.int .u8 (apB i t))) := hK.setCell _ fun _ => ⟨i, hil, hbg⟩
          have ht2 : 0 ≤ (t : Int) ∧ (t : Int) < (ms i : Nat) := by omega
          have hap : IntKind.u8.wrap (IntKind.i64.wrap (IntKind.i64.wrap (7 * (i : Int)) + (t : Int))) = apB i t := rfl
          rw [e2] at hcell
          (refine W_at c25_ok ?_; refine ⟨_, rfl, ?_⟩; simp (disch := first | omega | assumption | rfl | (simp only [vcS] <;> omega) | fail) only [↓ptV_l, ↓vcA, vcB, ↓vcD, vcE, ↓reduceIte, Nat.reduceEqDiff, Nat.reduceAdd, Nat.reduceMul, Nat.reduceLeDiff, Int.reduceLE, Int.reduceLT, Int.reduceEq, Int.reduceToNat, Int.reduceAdd, Int.reduceSub, Int.reduceMul, Int.reduceNeg, reduceCtorEq, Option.bind_some, Option.map_some, List.length_cons, List.length_nil, vcM, List.getElem?_toArray, List.getElem?_cons_zero, List.getElem?_cons_succ, hi2, Int.toNat_natCast, Nat.mul_one, hcell, hlt2])
          (refine W_at c25_ok ?_; refine ⟨_, rfl, ?_⟩; simp (disch := first | omega | assumption | rfl | (simp only [vcS] <;> omega) | fail) only [↓ptV_l, ↓vcA, vcB, ↓vcD, vcE, ↓reduceIte, Nat.reduceEqDiff, Nat.reduceAdd, Nat.reduceMul, Nat.reduceLeDiff, Int.reduceLE, Int.reduceLT, Int.reduceEq, Int.reduceToNat, Int.reduceAdd, Int.reduceSub, Int.reduceMul, Int.reduceNeg, reduceCtorEq, Option.bind_some, Option.map_some, List.length_cons, List.length_nil, vcM, List.getElem?_toArray, List.getElem?_cons_zero, List.getElem?_cons_succ])
          (refine W_at c25_ok ?_; refine ⟨_, rfl, ?_⟩; simp (disch := first | omega | assumption | rfl | (simp only [vcS] <;> omega) | fail) only [↓ptV_l, ↓vcA, vcB, ↓vcD, vcE, ↓reduceIte, Nat.reduceEqDiff, Nat.reduceAdd, Nat.reduceMul, Nat.reduceLeDiff, Int.reduceLE, Int.reduceLT, Int.reduceEq, Int.reduceToNat, Int.reduceAdd, Int.reduceSub, Int.reduceMul, Int.reduceNeg, reduceCtorEq, Option.bind_some, Option.map_some, List.length_cons, List.length_nil, vcM, List.getElem?_toArray, List.getElem?_cons_zero, List.getElem?_cons_succ, hi2, ht2, Int.toNat_natCast, Nat.mul_one, Nat.zero_add, hcell, hap])
          refine ⟨hw1, ?_⟩
          generalize World.setCell _ _ _ = w9 at hO3 hK3 ⊢
          (refine W_at c25_ok ?_; refine ⟨_, rfl, ?_⟩; simp (disch := first | omega | assumption | rfl | (simp only [vcS] <;> omega) | fail) only [↓ptV_l, ↓vcA, vcB, ↓vcD, vcE, ↓reduceIte, Nat.reduceEqDiff, Nat.reduceAdd, Nat.reduceMul, Nat.reduceLeDiff, Int.reduceLE, Int.reduceLT, Int.reduceEq, Int.reduceToNat, Int.reduceAdd, Int.reduceSub, Int.reduceMul, Int.reduceNeg, reduceCtorEq, Option.bind_some, Option.map_some, List.length_cons, List.length_nil, vcM, List.getElem?_toArray, List.getElem?_cons_zero, List.getElem?_cons_succ, hwt])
          (refine W_at c25_ok ?_; refine ⟨_, rfl, ?_⟩; simp (disch := first | omega | assumption | rfl | (simp only [vcS] <;> omega) | fail) only [↓ptV_l, ↓vcA, vcB, ↓vcD, vcE, ↓reduceIte, Nat.reduceEqDiff, Nat.reduceAdd, Nat.reduceMul, Nat.reduceLeDiff, Int.reduceLE, Int.reduceLT, Int.reduceEq, Int.reduceToNat, Int.reduceAdd, Int.reduceSub, Int.reduceMul, Int.reduceNeg, reduceCtorEq, Option.bind_some, Option.map_some, List.length_cons, List.length_nil, vcM, List.getElem?_toArray, List.getElem?_cons_zero, List.getElem?_cons_succ])
          exact ih2 (t + 1) w9 rest (by omega) (by rw [List.length_cons] at hrl; omega) hO3 hK3
      refine L1i (ms i) 0 wj (st i) (by omega) (hms i).symm ⟨fun j hj => ?_, fun j => ?_⟩ hK
      · have := hO.own j hj
        by_cases hji : j = i
        · subst hji; rw [upd_at]; rw [if_neg (by omega)] at this; exact this
        · rw [upd_ne _ _ hji]; exact this
      · by_cases hji : j = i
        · subst hji; rw [upd_at]; exact ho.len j
        · rw [upd_ne _ _ hji]; exact hO.len j
  (refine W_at c25_ok ?_; refine ⟨_, rfl, ?_⟩; simp (disch := first | omega | assumption | rfl | (simp only [vcS] <;> omega) | fail) only [↓ptV_l, ↓vcA, vcB, ↓vcD, vcE, ↓reduceIte, Nat.reduceEqDiff, Nat.reduceAdd, Nat.reduceMul, Nat.reduceLeDiff, Int.reduceLE, Int.reduceLT, Int.reduceEq, Int.reduceToNat, Int.reduceAdd, Int.reduceSub, Int.reduceMul, Int.reduceNeg, reduceCtorEq, Option.bind_some, Option.map_some, List.length_cons, List.length_nil, vcM, List.getElem?_toArray, List.getElem?_cons_zero, List.getElem?_cons_succ])
  (refine W_at c25_ok ?_; refine ⟨_, rfl, ?_⟩; simp (disch := first | omega | assumption | rfl | (simp only [vcS] <;> omega) | fail) only [↓ptV_l, ↓vcA, vcB, ↓vcD, vcE, ↓reduceIte, Nat.reduceEqDiff, Nat.reduceAdd, Nat.reduceMul, Nat.reduceLeDiff, Int.reduceLE, Int.reduceLT, Int.reduceEq, Int.reduceToNat, Int.reduceAdd, Int.reduceSub, Int.reduceMul, Int.reduceNeg, reduceCtorEq, Option.bind_some, Option.map_some, List.length_cons, List.length_nil, vcM, List.getElem?_toArray, List.getElem?_cons_zero, List.getElem?_cons_succ])
  refine L1 n 0 w ⟨fun j hj => ?_, fun j => ?_⟩ (Keep.refl _ w) (by omega)
  · rw [if_neg (by omega)]; exact ho.own j hj
  · rw [if_neg (by omega)]; exact ho.len j
end Go.Proofs
