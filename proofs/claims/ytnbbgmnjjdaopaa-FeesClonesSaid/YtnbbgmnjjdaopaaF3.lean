/- The program's Block. -/
import Derived.Test.YtnbbgmnjjdaopaaF2
set_option linter.unusedSimpArgs false
set_option linter.unusedVariables false
set_option linter.constructorNameAsVariable false
namespace Go.Proofs
open Go.Vc Go.Proofs.Fees
set_option maxRecDepth 10000

def fadeF (x : Int) : Int := IntKind.i64.wrap ((IntKind.i64.wrap (x * 998)).tdiv 1000)
/-- The first i counts faded. -/
def pf (i : Nat) (cnt : List Int) : List Int := (cnt.take i).map fadeF ++ cnt.drop i
theorem pf_zero (cnt : List Int) : pf 0 cnt = cnt := by simp [pf]
theorem pf_len (i : Nat) (cnt : List Int) : (pf i cnt).length = cnt.length := by simp [pf]; omega
theorem pf_all {n : Nat} {cnt : List Int} (h : cnt.length = n) : pf n cnt = cnt.map fadeF := by subst h; simp [pf]
theorem pf_getD {i j : Nat} {cnt : List Int} (h : i ≤ j) (hi : j < cnt.length) : (pf i cnt).getD j 0 = cnt.getD j 0 := by
  have e : (List.map fadeF (cnt.take i)).length = i := by simp; omega
  simp only [pf, List.getD_eq_getElem?_getD]
  rw [List.getElem?_append_right (by omega), e, List.getElem?_drop]
  congr 2; omega
theorem pf_set {i : Nat} {cnt : List Int} (h : i < cnt.length) : (pf i cnt).set i (fadeF (cnt.getD i 0)) = pf (i + 1) cnt := by
  have e : (List.map fadeF (cnt.take i)).length = i := by simp; omega
  simp only [pf]
  rw [List.set_append, if_neg (by omega), e, Nat.sub_self, List.drop_eq_getElem_cons h, List.set_cons_zero, List.take_succ_eq_append_getElem h]
  simp only [List.map_append, List.map_cons, List.map_nil, List.append_assoc, List.cons_append, List.nil_append, List.getD_eq_getElem?_getD, List.getElem?_eq_getElem h, Option.getD_some]

theorem ext_get {c : Array Value} {o n j : Nat} (h : o + n ≤ c.size) (hj : j < n) : (c.extract o (o + n))[j]? = c[o + j]? := by
  simp only [Array.getElem?_extract]
  rw [if_pos (by omega)]
theorem ext_size {c : Array Value} {o n : Nat} (h : o + n ≤ c.size) : (c.extract o (o + n)).size = n := by
  simp; omega

theorem blockA (w : World) (b : Nat) (cnt : List Int) (m : Option Nat) (ws : List WE) (h : Int) (v : Value) (hb : BookAt w b cnt m ws) (R : Ending → World → Prop)
    (hend : ∀ (w1 : World) (tl : Env), BookAt w1 b (cnt.map fadeF) m ws → Keep (Own b m) w w1 → W Try.prog R 18 25 ((0, .pointer (some ⟨b, 0, none⟩)) :: (1, .int .i64 h) :: (2, v) :: tl) w1) :
    W Try.prog R 18 39 [(0, .pointer (some ⟨b, 0, none⟩)), (1, .int .i64 h), (2, v), (17, .int .i64 0)] w := by
  have hl := hb.2.1
  have H : ∀ (n k : Nat) (w1 : World), n + k = 24 → BookAt w1 b (pf (k * 13) cnt) m ws → Keep (Own b m) w w1 →
      W Try.prog R 18 39 [(0, .pointer (some ⟨b, 0, none⟩)), (1, .int .i64 h), (2, v), (17, .int .i64 k)] w1 := by
    intro n
    induction n with
    | zero =>
      intro k w1 hk hb1 hk1
      have hk' : ¬ ((k : Int) < 24) := by omega
      (refine W_at c18_ok ?_; refine ⟨_, rfl, ?_⟩; simp (disch := first | omega | assumption | rfl | (simp only [vcS] <;> omega) | fail) only [↓ptV_l, ↓vcA, vcB, ↓vcD, vcE, ↓reduceIte, Nat.reduceEqDiff, Nat.reduceAdd, Nat.reduceMul, Nat.reduceLeDiff, Int.reduceLE, Int.reduceLT, Int.reduceEq, Int.reduceToNat, Int.reduceAdd, Int.reduceSub, Int.reduceMul, Int.reduceNeg, reduceCtorEq, Option.bind_some, Option.map_some, List.length_cons, List.length_nil, vcM, List.getElem?_toArray, List.getElem?_cons_zero, List.getElem?_cons_succ, hk'])
      (refine W_at c18_ok ?_; refine ⟨_, rfl, ?_⟩; simp (disch := first | omega | assumption | rfl | (simp only [vcS] <;> omega) | fail) only [↓ptV_l, ↓vcA, vcB, ↓vcD, vcE, ↓reduceIte, Nat.reduceEqDiff, Nat.reduceAdd, Nat.reduceMul, Nat.reduceLeDiff, Int.reduceLE, Int.reduceLT, Int.reduceEq, Int.reduceToNat, Int.reduceAdd, Int.reduceSub, Int.reduceMul, Int.reduceNeg, reduceCtorEq, Option.bind_some, Option.map_some, List.length_cons, List.length_nil, vcM, List.getElem?_toArray, List.getElem?_cons_zero, List.getElem?_cons_succ])
      have hk24 : k = 24 := by omega
      subst hk24
      exact hend _ _ (by rw [← pf_all hl]; exact hb1) hk1
    | succ n ih =>
      intro k w1 hk hb1 hk1
      have hk' : (k : Int) < 24 := by omega
      have hk2 : 0 ≤ (k : Int) ∧ (k : Int) < 24 := by omega
      have hbb := hb1.1
      have hlp : (pf (k * 13) cnt).length = 312 := hb1.2.1
      have hsz : (bookC (pf (k * 13) cnt) m).size = 313 := by rw [size_bookC, hlp]
      (refine W_at c18_ok ?_; refine ⟨_, rfl, ?_⟩; simp (disch := first | omega | assumption | rfl | (simp only [vcS] <;> omega) | fail) only [↓ptV_l, ↓vcA, vcB, ↓vcD, vcE, ↓reduceIte, Nat.reduceEqDiff, Nat.reduceAdd, Nat.reduceMul, Nat.reduceLeDiff, Int.reduceLE, Int.reduceLT, Int.reduceEq, Int.reduceToNat, Int.reduceAdd, Int.reduceSub, Int.reduceMul, Int.reduceNeg, reduceCtorEq, Option.bind_some, Option.map_some, List.length_cons, List.length_nil, vcM, List.getElem?_toArray, List.getElem?_cons_zero, List.getElem?_cons_succ, hk'])
      (refine W_at c18_ok ?_; refine ⟨_, rfl, ?_⟩; simp (disch := first | omega | assumption | rfl | (simp only [vcS] <;> omega) | fail) only [↓ptV_l, ↓vcA, vcB, ↓vcD, vcE, ↓reduceIte, Nat.reduceEqDiff, Nat.reduceAdd, Nat.reduceMul, Nat.reduceLeDiff, Int.reduceLE, Int.reduceLT, Int.reduceEq, Int.reduceToNat, Int.reduceAdd, Int.reduceSub, Int.reduceMul, Int.reduceNeg, reduceCtorEq, Option.bind_some, Option.map_some, List.length_cons, List.length_nil, vcM, List.getElem?_toArray, List.getElem?_cons_zero, List.getElem?_cons_succ])
      (refine W_at c18_ok ?_; refine ⟨_, rfl, ?_⟩; simp (disch := first | omega | assumption | rfl | (simp only [vcS] <;> omega) | fail) only [↓ptV_l, ↓vcA, vcB, ↓vcD, vcE, ↓reduceIte, Nat.reduceEqDiff, Nat.reduceAdd, Nat.reduceMul, Nat.reduceLeDiff, Int.reduceLE, Int.reduceLT, Int.reduceEq, Int.reduceToNat, Int.reduceAdd, Int.reduceSub, Int.reduceMul, Int.reduceNeg, reduceCtorEq, Option.bind_some, Option.map_some, List.length_cons, List.length_nil, vcM, List.getElem?_toArray, List.getElem?_cons_zero, List.getElem?_cons_succ])
      (refine W_at c18_ok ?_; refine ⟨_, rfl, ?_⟩; simp (disch := first | omega | assumption | rfl | (simp only [vcS] <;> omega) | fail) only [↓ptV_l, ↓vcA, vcB, ↓vcD, vcE, ↓reduceIte, Nat.reduceEqDiff, Nat.reduceAdd, Nat.reduceMul, Nat.reduceLeDiff, Int.reduceLE, Int.reduceLT, Int.reduceEq, Int.reduceToNat, Int.reduceAdd, Int.reduceSub, Int.reduceMul, Int.reduceNeg, reduceCtorEq, Option.bind_some, Option.map_some, List.length_cons, List.length_nil, vcM, List.getElem?_toArray, List.getElem?_cons_zero, List.getElem?_cons_succ, hk2, Int.toNat_natCast])
      have h1 : (bookC (pf (k * 13) cnt) m)[k * 13]? = some (.int .i64 (cnt.getD (k * 13) 0)) := by rw [bookC_int (by omega), pf_getD (by omega) (by omega)]
      (refine W_at c18_ok ?_; refine ⟨_, rfl, ?_⟩; simp (disch := first | omega | assumption | rfl | (simp only [vcS] <;> omega) | fail) only [↓ptV_l, ↓vcA, vcB, ↓vcD, vcE, ↓reduceIte, Nat.reduceEqDiff, Nat.reduceAdd, Nat.reduceMul, Nat.reduceLeDiff, Int.reduceLE, Int.reduceLT, Int.reduceEq, Int.reduceToNat, Int.reduceAdd, Int.reduceSub, Int.reduceMul, Int.reduceNeg, reduceCtorEq, Option.bind_some, Option.map_some, List.length_cons, List.length_nil, vcM, List.getElem?_toArray, List.getElem?_cons_zero, List.getElem?_cons_succ, hbb, h1])
      refine callV_ret (fade_ok _ w1) ?_
      rintro _ w2 ⟨rfl, hw2⟩
      obtain rfl : w1 = w2 := hw2.symm
      have hwr := hb1.wr (i := k * 13) (by omega)
      simp (disch := first | omega | assumption | rfl | (simp only [vcS] <;> omega) | fail) only [↓ptV_l, ↓vcA, vcB, ↓vcD, vcE, ↓reduceIte, Nat.reduceEqDiff, Nat.reduceAdd, Nat.reduceMul, Nat.reduceLeDiff, Int.reduceLE, Int.reduceLT, Int.reduceEq, Int.reduceToNat, Int.reduceAdd, Int.reduceSub, Int.reduceMul, Int.reduceNeg, reduceCtorEq, Option.bind_some, Option.map_some, List.length_cons, List.length_nil, vcM, List.getElem?_toArray, List.getElem?_cons_zero, List.getElem?_cons_succ, hbb, h1]
      refine ⟨hwr, ?_⟩
      have hb2 := hb1.set (i := k * 13) (by omega) (fadeF (cnt.getD (k * 13) 0))
      have e2 := pf_set (i := k * 13) (cnt := cnt) (by omega)
      have hk2 : Keep (Own b m) w (w1.setCell ⟨b, k * 13, none⟩ (.int .i64 (fadeF (cnt.getD (k * 13) 0)))) := hk1.setCell _ fun _ => .inl rfl
      have e3 : (pf (k * 13) cnt).set (k * 13) (fadeF (cnt.getD (k * 13) 0)) = pf (k * 13 + 1) cnt := by
        rw [← e2]
      rw [e3] at hb2
      unfold fadeF at hb2 hk2
      generalize World.setCell w1 _ _ = w2 at hb2 hk2 ⊢
      have hbb2 := hb2.1
      have hlp2 : (pf (k * 13 + 1) cnt).length = 312 := hb2.2.1
      have hsz2 : (bookC (pf (k * 13 + 1) cnt) m).size = 313 := by rw [size_bookC, hlp2]
      (refine W_at c18_ok ?_; refine ⟨_, rfl, ?_⟩; simp (disch := first | omega | assumption | rfl | (simp only [vcS] <;> omega) | fail) only [↓ptV_l, ↓vcA, vcB, ↓vcD, vcE, ↓reduceIte, Nat.reduceEqDiff, Nat.reduceAdd, Nat.reduceMul, Nat.reduceLeDiff, Int.reduceLE, Int.reduceLT, Int.reduceEq, Int.reduceToNat, Int.reduceAdd, Int.reduceSub, Int.reduceMul, Int.reduceNeg, reduceCtorEq, Option.bind_some, Option.map_some, List.length_cons, List.length_nil, vcM, List.getElem?_toArray, List.getElem?_cons_zero, List.getElem?_cons_succ, hbb2])
      have hA : ((bookC (pf (k * 13 + 1) cnt) m).extract (k * 13 + 1) (k * 13 + 1 + 12)).size = 12 := ext_size (by omega)
      have hAt : ∀ t, t < 12 → ((bookC (pf (k * 13 + 1) cnt) m).extract (k * 13 + 1) (k * 13 + 1 + 12))[t]? = some (.int .i64 (cnt.getD (k * 13 + 1 + t) 0)) := by
        intro t ht
        rw [ext_get (by omega) ht, bookC_int (by omega), pf_getD (by omega) (by omega)]
      generalize Array.extract (bookC (pf (k * 13 + 1) cnt) m) _ _ = A at hA hAt ⊢
      have I : ∀ (n' t : Nat) (w3 : World), n' + t = 12 → BookAt w3 b (pf (k * 13 + 1 + t) cnt) m ws → Keep (Own b m) w w3 →
          W Try.prog R 18 33 [(0, .pointer (some ⟨b, 0, none⟩)), (1, .int .i64 h), (2, v), (7, .pointer (some ⟨b, k * 13, none⟩)), (17, .int .i64 k), (36, .agg A), (37, .int .i64 t)] w3 := by
        intro n'
        induction n' with
        | zero =>
          intro t w3 ht hb3 hk3
          have ht' : ¬ ((t : Int) < 12) := by omega
          have hw : IntKind.i64.wrap ((k : Int) + 1) = ((k + 1 : Nat) : Int) := wrap_i64 (by omega) (by omega)
          (refine W_at c18_ok ?_; refine ⟨_, rfl, ?_⟩; simp (disch := first | omega | assumption | rfl | (simp only [vcS] <;> omega) | fail) only [↓ptV_l, ↓vcA, vcB, ↓vcD, vcE, ↓reduceIte, Nat.reduceEqDiff, Nat.reduceAdd, Nat.reduceMul, Nat.reduceLeDiff, Int.reduceLE, Int.reduceLT, Int.reduceEq, Int.reduceToNat, Int.reduceAdd, Int.reduceSub, Int.reduceMul, Int.reduceNeg, reduceCtorEq, Option.bind_some, Option.map_some, List.length_cons, List.length_nil, vcM, List.getElem?_toArray, List.getElem?_cons_zero, List.getElem?_cons_succ, ht'])
          (refine W_at c18_ok ?_; refine ⟨_, rfl, ?_⟩; simp (disch := first | omega | assumption | rfl | (simp only [vcS] <;> omega) | fail) only [↓ptV_l, ↓vcA, vcB, ↓vcD, vcE, ↓reduceIte, Nat.reduceEqDiff, Nat.reduceAdd, Nat.reduceMul, Nat.reduceLeDiff, Int.reduceLE, Int.reduceLT, Int.reduceEq, Int.reduceToNat, Int.reduceAdd, Int.reduceSub, Int.reduceMul, Int.reduceNeg, reduceCtorEq, Option.bind_some, Option.map_some, List.length_cons, List.length_nil, vcM, List.getElem?_toArray, List.getElem?_cons_zero, List.getElem?_cons_succ])
          (refine W_at c18_ok ?_; refine ⟨_, rfl, ?_⟩; simp (disch := first | omega | assumption | rfl | (simp only [vcS] <;> omega) | fail) only [↓ptV_l, ↓vcA, vcB, ↓vcD, vcE, ↓reduceIte, Nat.reduceEqDiff, Nat.reduceAdd, Nat.reduceMul, Nat.reduceLeDiff, Int.reduceLE, Int.reduceLT, Int.reduceEq, Int.reduceToNat, Int.reduceAdd, Int.reduceSub, Int.reduceMul, Int.reduceNeg, reduceCtorEq, Option.bind_some, Option.map_some, List.length_cons, List.length_nil, vcM, List.getElem?_toArray, List.getElem?_cons_zero, List.getElem?_cons_succ, hw])
          (refine W_at c18_ok ?_; refine ⟨_, rfl, ?_⟩; simp (disch := first | omega | assumption | rfl | (simp only [vcS] <;> omega) | fail) only [↓ptV_l, ↓vcA, vcB, ↓vcD, vcE, ↓reduceIte, Nat.reduceEqDiff, Nat.reduceAdd, Nat.reduceMul, Nat.reduceLeDiff, Int.reduceLE, Int.reduceLT, Int.reduceEq, Int.reduceToNat, Int.reduceAdd, Int.reduceSub, Int.reduceMul, Int.reduceNeg, reduceCtorEq, Option.bind_some, Option.map_some, List.length_cons, List.length_nil, vcM, List.getElem?_toArray, List.getElem?_cons_zero, List.getElem?_cons_succ])
          refine ih (k + 1) w3 (by omega) ?_ hk3
          have : (k + 1) * 13 = k * 13 + 1 + t := by omega
          rw [this]; exact hb3
        | succ n' ih' =>
          intro t w3 ht hb3 hk3
          have ht' : (t : Int) < 12 := by omega
          have ht2 : 0 ≤ (t : Int) ∧ (t : Int) < 12 := by omega
          have hw : IntKind.i64.wrap ((t : Int) + 1) = ((t + 1 : Nat) : Int) := wrap_i64 (by omega) (by omega)
          have hbb3 := hb3.1
          have hlp3 : (pf (k * 13 + 1 + t) cnt).length = 312 := hb3.2.1
          have hsz3 : (bookC (pf (k * 13 + 1 + t) cnt) m).size = 313 := by rw [size_bookC, hlp3]
          have hAt' := hAt t (by omega)
          (refine W_at c18_ok ?_; refine ⟨_, rfl, ?_⟩; simp (disch := first | omega | assumption | rfl | (simp only [vcS] <;> omega) | fail) only [↓ptV_l, ↓vcA, vcB, ↓vcD, vcE, ↓reduceIte, Nat.reduceEqDiff, Nat.reduceAdd, Nat.reduceMul, Nat.reduceLeDiff, Int.reduceLE, Int.reduceLT, Int.reduceEq, Int.reduceToNat, Int.reduceAdd, Int.reduceSub, Int.reduceMul, Int.reduceNeg, reduceCtorEq, Option.bind_some, Option.map_some, List.length_cons, List.length_nil, vcM, List.getElem?_toArray, List.getElem?_cons_zero, List.getElem?_cons_succ, ht'])
          (refine W_at c18_ok ?_; refine ⟨_, rfl, ?_⟩; simp (disch := first | omega | assumption | rfl | (simp only [vcS] <;> omega) | fail) only [↓ptV_l, ↓vcA, vcB, ↓vcD, vcE, ↓reduceIte, Nat.reduceEqDiff, Nat.reduceAdd, Nat.reduceMul, Nat.reduceLeDiff, Int.reduceLE, Int.reduceLT, Int.reduceEq, Int.reduceToNat, Int.reduceAdd, Int.reduceSub, Int.reduceMul, Int.reduceNeg, reduceCtorEq, Option.bind_some, Option.map_some, List.length_cons, List.length_nil, vcM, List.getElem?_toArray, List.getElem?_cons_zero, List.getElem?_cons_succ])
          (refine W_at c18_ok ?_; refine ⟨_, rfl, ?_⟩; simp (disch := first | omega | assumption | rfl | (simp only [vcS] <;> omega) | fail) only [↓ptV_l, ↓vcA, vcB, ↓vcD, vcE, ↓reduceIte, Nat.reduceEqDiff, Nat.reduceAdd, Nat.reduceMul, Nat.reduceLeDiff, Int.reduceLE, Int.reduceLT, Int.reduceEq, Int.reduceToNat, Int.reduceAdd, Int.reduceSub, Int.reduceMul, Int.reduceNeg, reduceCtorEq, Option.bind_some, Option.map_some, List.length_cons, List.length_nil, vcM, List.getElem?_toArray, List.getElem?_cons_zero, List.getElem?_cons_succ, ht2, hAt', Int.toNat_natCast, Nat.mul_one])
          (refine W_at c18_ok ?_; refine ⟨_, rfl, ?_⟩; simp (disch := first | omega | assumption | rfl | (simp only [vcS] <;> omega) | fail) only [↓ptV_l, ↓vcA, vcB, ↓vcD, vcE, ↓reduceIte, Nat.reduceEqDiff, Nat.reduceAdd, Nat.reduceMul, Nat.reduceLeDiff, Int.reduceLE, Int.reduceLT, Int.reduceEq, Int.reduceToNat, Int.reduceAdd, Int.reduceSub, Int.reduceMul, Int.reduceNeg, reduceCtorEq, Option.bind_some, Option.map_some, List.length_cons, List.length_nil, vcM, List.getElem?_toArray, List.getElem?_cons_zero, List.getElem?_cons_succ])
          have hb6 : BookAt w3.drew b (pf (k * 13 + 1 + t) cnt) m ws := hb3.keep ((Keep.refl (fun _ => False) w3).drew) (fun h => h) fun _ _ h => h
          have hk6 := hk3.drew
          generalize w3.drew = w6 at hb6 hk6 ⊢
          refine callV_ret (fade_ok _ w6) ?_
          rintro _ w4 ⟨rfl, hw4⟩
          obtain rfl : w6 = w4 := hw4.symm
          have hwr := hb6.wr (i := k * 13 + 1 + t) (by omega)
          simp (disch := first | omega | assumption | rfl | (simp only [vcS] <;> omega) | fail) only [↓ptV_l, ↓vcA, vcB, ↓vcD, vcE, ↓reduceIte, Nat.reduceEqDiff, Nat.reduceAdd, Nat.reduceMul, Nat.reduceLeDiff, Int.reduceLE, Int.reduceLT, Int.reduceEq, Int.reduceToNat, Int.reduceAdd, Int.reduceSub, Int.reduceMul, Int.reduceNeg, reduceCtorEq, Option.bind_some, Option.map_some, List.length_cons, List.length_nil, vcM, List.getElem?_toArray, List.getElem?_cons_zero, List.getElem?_cons_succ, ht2, Int.toNat_natCast, Nat.mul_one]
          refine ⟨hwr, ?_⟩
          have hb4 := hb6.set (i := k * 13 + 1 + t) (by omega) (fadeF (cnt.getD (k * 13 + 1 + t) 0))
          have hk4 : Keep (Own b m) w (w6.setCell ⟨b, k * 13 + 1 + t, none⟩ (.int .i64 (fadeF (cnt.getD (k * 13 + 1 + t) 0)))) := hk6.setCell _ fun _ => .inl rfl
          rw [pf_set (by omega)] at hb4
          unfold fadeF at hb4 hk4
          generalize World.setCell w6 _ _ = w5 at hb4 hk4 ⊢
          (refine W_at c18_ok ?_; refine ⟨_, rfl, ?_⟩; simp (disch := first | omega | assumption | rfl | (simp only [vcS] <;> omega) | fail) only [↓ptV_l, ↓vcA, vcB, ↓vcD, vcE, ↓reduceIte, Nat.reduceEqDiff, Nat.reduceAdd, Nat.reduceMul, Nat.reduceLeDiff, Int.reduceLE, Int.reduceLT, Int.reduceEq, Int.reduceToNat, Int.reduceAdd, Int.reduceSub, Int.reduceMul, Int.reduceNeg, reduceCtorEq, Option.bind_some, Option.map_some, List.length_cons, List.length_nil, vcM, List.getElem?_toArray, List.getElem?_cons_zero, List.getElem?_cons_succ, hw])
          (refine W_at c18_ok ?_; refine ⟨_, rfl, ?_⟩; simp (disch := first | omega | assumption | rfl | (simp only [vcS] <;> omega) | fail) only [↓ptV_l, ↓vcA, vcB, ↓vcD, vcE, ↓reduceIte, Nat.reduceEqDiff, Nat.reduceAdd, Nat.reduceMul, Nat.reduceLeDiff, Int.reduceLE, Int.reduceLT, Int.reduceEq, Int.reduceToNat, Int.reduceAdd, Int.reduceSub, Int.reduceMul, Int.reduceNeg, reduceCtorEq, Option.bind_some, Option.map_some, List.length_cons, List.length_nil, vcM, List.getElem?_toArray, List.getElem?_cons_zero, List.getElem?_cons_succ])
          exact ih' (t + 1) w5 (by omega) hb4 hk4
      exact I 12 0 w2 rfl hb2 hk2
  exact H 24 0 w rfl (by rw [Nat.zero_mul, pf_zero]; exact hb) (Keep.refl _ w)
end Go.Proofs
