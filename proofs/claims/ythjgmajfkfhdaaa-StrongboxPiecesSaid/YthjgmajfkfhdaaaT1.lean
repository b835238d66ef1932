/- Texts; a byte's place in one; a builder of texts. -/
import Derived.Test.YthjgmajfkfhdaaaDO
import Derived.Test.YthjgmajfkfhdaaaTW
import Derived.Laws.Externs
import Derived.Lib.Builder
import Derived.Lib.UnsafeStr
set_option linter.unusedSimpArgs false
set_option linter.unusedVariables false
set_option linter.constructorNameAsVariable false
namespace Go.Proofs
open Go.Vc
set_option maxRecDepth 10000

/-! ### Texts as bytes -/
theorem u8i {x : Int} (h : 0 ≤ x ∧ x ≤ 255) : ((UInt8.ofNat x.toNat).toNat : Int) = x := by
  rw [UInt8.toNat_ofNat']
  omega
theorem str_size (bs : List Int) : (strOf bs).size = bs.length := by simp [strOf, ByteArray.size]
theorem str_get {bs : List Int} {i : Nat} (h : i < bs.length) : (strOf bs)[i]? = some (UInt8.ofNat bs[i].toNat) := by
  have h1 : i < (strOf bs).size := by rw [str_size]; exact h
  rw [getElem?_pos (strOf bs) i h1]
  congr 1
  show (strOf bs).data[i] = _
  simp [strOf]
theorem str_ext {a b : ByteArray} (h : a.data = b.data) : a = b := by cases a; cases b; cases h; rfl
theorem str_app (a b : List Int) : strOf a ++ strOf b = strOf (a ++ b) := by
  apply ByteArray.ext
  rw [ByteArray.data_append]
  simp [strOf]
theorem str_cut (bs : List Int) (l j : Nat) : (strOf bs).extract l j = strOf ((bs.take j).drop l) := by
  apply ByteArray.ext
  rw [ByteArray.data_extract]
  apply Array.ext'
  simp [strOf, List.extract_eq_take_drop, List.map_drop, List.map_take, List.drop_take]
theorem str_of (s : ByteArray) : ∃ bs, byt bs ∧ s = strOf bs := by
  refine ⟨s.data.toList.map fun b => (b.toNat : Int), fun x hx => ?_, ?_⟩
  · obtain ⟨b, _, rfl⟩ := List.mem_map.1 hx
    have := b.toNat_lt
    omega
  · apply ByteArray.ext
    apply Array.ext'
    simp only [strOf, List.map_map]
    have e : ((fun m : Int => UInt8.ofNat m.toNat) ∘ fun b : UInt8 => (b.toNat : Int)) = id := by
      funext b
      simp
    rw [e, List.map_id]
theorem str_nil : (⟨#[]⟩ : ByteArray) = strOf [] := rfl
/-- The place of a byte in some; -1: none. -/
def placeF (c : Int) : List Int → Nat → Int
  | [], _ => -1
  | b :: bs, k => if b = c then k else placeF c bs (k + 1)
theorem placeF_lt (c : Int) : ∀ (bs : List Int) (k : Nat), -1 ≤ placeF c bs k ∧ (placeF c bs k < k + bs.length ∨ bs = [])
  | [], k => ⟨by simp [placeF], .inr rfl⟩
  | b :: bs, k => by
    simp only [placeF]
    split
    · exact ⟨by omega, .inl (by simp only [List.length_cons]; omega)⟩
    · have := placeF_lt c bs (k + 1)
      refine ⟨this.1, .inl ?_⟩
      rcases this.2 with h | h
      · simp only [List.length_cons]; omega
      · subst h; simp only [placeF, List.length_cons]; omega

/-! ### What the model itself does -/
theorem index_run {P : Program} {f : FuncId} {fn : Func} (hf : P.funcs[f]? = some fn) (hname : (fn.name == "runtime.NumGoroutine") = false) (hb : fn.body.isNone = true) (hn : Extern.findNext fn = none) (he : Extern.find fn = some Extern.BytealgIndexByte.indexByte)
    (w : World) (bs : List Int) (c : Int) (h : byt bs) (hc : 0 ≤ c ∧ c ≤ 255) :
    (callFunc f [Value.string (strOf bs), .int .u8 c].toArray).run P w = .ok (.value (.int .i64 (placeF c bs 0))) w := by
  rw [run_callFunc_extern hf hname hb hn he]
  have e : Extern.BytealgIndexByte.indexByte [Value.string (strOf bs), .int .u8 c].toArray = (match (List.range (strOf bs).size).find? fun i => (strOf bs)[i]! == c.toNat.toUInt8 with
      | some i => pure (goInt i)
      | none => pure (goInt (-1))) := rfl
  have e2 : ∀ (l : List Int) (pre : List Int), bs = pre ++ l → (match (List.range' pre.length l.length).find? fun i => (strOf bs)[i]! == c.toNat.toUInt8 with
      | some i => (i : Int)
      | none => -1) = placeF c l pre.length := by
    intro l
    induction l with
    | nil => intro pre _; rfl
    | cons b l ih =>
      intro pre hp
      have hg : (strOf bs)[pre.length]! = UInt8.ofNat b.toNat := by
        have h1 : (strOf bs)[pre.length]? = some (UInt8.ofNat b.toNat) := by
          rw [str_get (by rw [hp]; simp)]
          simp [hp]
        rw [getElem!_def, h1]
      rw [List.length_cons, List.range'_succ, List.find?_cons, hg]
      have hbb : 0 ≤ b ∧ b ≤ 255 := h b (by rw [hp]; simp)
      have hcc : (UInt8.ofNat b.toNat == c.toNat.toUInt8) = decide (b = c) := by
        rw [Bool.eq_iff_iff, beq_iff_eq, decide_eq_true_iff]
        constructor
        · intro hh
          have h3 := congrArg (fun x : UInt8 => (x.toNat : Int)) hh
          have h4 := u8i hc
          have h5 : c.toNat.toUInt8 = UInt8.ofNat c.toNat := rfl
          rw [h5] at h3
          exact (u8i hbb).symm.trans (h3.trans h4)
        · rintro rfl; rfl
      rw [hcc]
      simp only [placeF]
      by_cases hbc : b = c
      · rw [decide_eq_true hbc, if_pos hbc]
      · rw [decide_eq_false hbc, if_neg hbc]
        have := ih (pre ++ [b]) (by rw [hp]; simp)
        rw [List.length_append] at this
        exact this
  have e3 := e2 bs [] rfl
  rw [e, str_size]
  rw [List.length_nil, ← List.range_eq_range'] at e3
  cases hq : (List.range bs.length).find? fun i => (strOf bs)[i]! == c.toNat.toUInt8 with
  | some i => rw [hq] at e3; simp only at e3; rw [← e3]; rfl
  | none => rw [hq] at e3; simp only at e3; rw [← e3]; rfl
theorem index_ok (w : World) (bs : List Int) (c : Int) (h : byt bs) (hc : 0 ≤ c ∧ c ≤ 255) :
    Calls Try.prog 34 #[.string (strOf bs), .int .u8 c] w (Ret fun u w' => u = .int .i64 (placeF c bs 0) ∧ w' = w) := by
  refine calls_of_cfg c34_ok (Nat.le_of_ble_eq_true rfl) ?_
  simp only [argE_nil, argE_cons, Nat.reduceAdd, Nat.zero_add]
  (refine W_at c34_ok ?_; refine ⟨_, rfl, ?_⟩; simp (disch := first | omega | assumption | rfl | (simp only [vcS] <;> omega) | fail) only [↓ptV_l, ↓vcA, vcB, ↓vcD, vcE, ↓reduceIte, Nat.reduceEqDiff, Nat.reduceAdd, Nat.reduceMul, Nat.reduceLeDiff, Int.reduceLE, Int.reduceLT, Int.reduceEq, Int.reduceToNat, Int.reduceAdd, Int.reduceSub, Int.reduceMul, Int.reduceNeg, reduceCtorEq, Option.bind_some, Option.map_some, List.length_cons, List.length_nil, vcM, List.getElem?_toArray, List.getElem?_cons_zero, List.getElem?_cons_succ])
  (refine W_at c34_ok ?_; refine ⟨_, rfl, ?_⟩; simp (disch := first | omega | assumption | rfl | (simp only [vcS] <;> omega) | fail) only [↓ptV_l, ↓vcA, vcB, ↓vcD, vcE, ↓reduceIte, Nat.reduceEqDiff, Nat.reduceAdd, Nat.reduceMul, Nat.reduceLeDiff, Int.reduceLE, Int.reduceLT, Int.reduceEq, Int.reduceToNat, Int.reduceAdd, Int.reduceSub, Int.reduceMul, Int.reduceNeg, reduceCtorEq, Option.bind_some, Option.map_some, List.length_cons, List.length_nil, vcM, List.getElem?_toArray, List.getElem?_cons_zero, List.getElem?_cons_succ])
  have inner : Calls Try.prog 48 #[.string (strOf bs), .int .u8 c] w (Ret fun u w' => u = .int .i64 (placeF c bs 0) ∧ w' = w) := by
    refine calls_of_cfg c48_ok (Nat.le_of_ble_eq_true rfl) ?_
    simp only [argE_nil, argE_cons, Nat.reduceAdd, Nat.zero_add]
    (refine W_at c48_ok ?_; refine ⟨_, rfl, ?_⟩; simp (disch := first | omega | assumption | rfl | (simp only [vcS] <;> omega) | fail) only [↓ptV_l, ↓vcA, vcB, ↓vcD, vcE, ↓reduceIte, Nat.reduceEqDiff, Nat.reduceAdd, Nat.reduceMul, Nat.reduceLeDiff, Int.reduceLE, Int.reduceLT, Int.reduceEq, Int.reduceToNat, Int.reduceAdd, Int.reduceSub, Int.reduceMul, Int.reduceNeg, reduceCtorEq, Option.bind_some, Option.map_some, List.length_cons, List.length_nil, vcM, List.getElem?_toArray, List.getElem?_cons_zero, List.getElem?_cons_succ])
    (refine W_at c48_ok ?_; refine ⟨_, rfl, ?_⟩; simp (disch := first | omega | assumption | rfl | (simp only [vcS] <;> omega) | fail) only [↓ptV_l, ↓vcA, vcB, ↓vcD, vcE, ↓reduceIte, Nat.reduceEqDiff, Nat.reduceAdd, Nat.reduceMul, Nat.reduceLeDiff, Int.reduceLE, Int.reduceLT, Int.reduceEq, Int.reduceToNat, Int.reduceAdd, Int.reduceSub, Int.reduceMul, Int.reduceNeg, reduceCtorEq, Option.bind_some, Option.map_some, List.length_cons, List.length_nil, vcM, List.getElem?_toArray, List.getElem?_cons_zero, List.getElem?_cons_succ])
    refine ⟨_, _, index_run Try.func55 (by kernel_rfl) (by kernel_rfl) (by kernel_rfl) (by kernel_rfl) w bs c h hc, ?_⟩
    first | (simp (disch := first | omega | assumption | rfl | (simp only [vcS] <;> omega) | fail) only [↓ptV_l, ↓vcA, vcB, ↓vcD, vcE, ↓reduceIte, Nat.reduceEqDiff, Nat.reduceAdd, Nat.reduceMul, Nat.reduceLeDiff, Int.reduceLE, Int.reduceLT, Int.reduceEq, Int.reduceToNat, Int.reduceAdd, Int.reduceSub, Int.reduceMul, Int.reduceNeg, reduceCtorEq, Option.bind_some, Option.map_some, List.length_cons, List.length_nil, vcM, List.getElem?_toArray, List.getElem?_cons_zero, List.getElem?_cons_succ]) | skip
    (refine W_at c48_ok ?_; refine ⟨_, rfl, ?_⟩; simp (disch := first | omega | assumption | rfl | (simp only [vcS] <;> omega) | fail) only [↓ptV_l, ↓vcA, vcB, ↓vcD, vcE, ↓reduceIte, Nat.reduceEqDiff, Nat.reduceAdd, Nat.reduceMul, Nat.reduceLeDiff, Int.reduceLE, Int.reduceLT, Int.reduceEq, Int.reduceToNat, Int.reduceAdd, Int.reduceSub, Int.reduceMul, Int.reduceNeg, reduceCtorEq, Option.bind_some, Option.map_some, List.length_cons, List.length_nil, vcM, List.getElem?_toArray, List.getElem?_cons_zero, List.getElem?_cons_succ, Ret_returned])
  refine callV_ret inner ?_
  rintro _ w1 ⟨rfl, hw⟩
  obtain rfl : w = w1 := hw.symm
  first | (simp (disch := first | omega | assumption | rfl | (simp only [vcS] <;> omega) | fail) only [↓ptV_l, ↓vcA, vcB, ↓vcD, vcE, ↓reduceIte, Nat.reduceEqDiff, Nat.reduceAdd, Nat.reduceMul, Nat.reduceLeDiff, Int.reduceLE, Int.reduceLT, Int.reduceEq, Int.reduceToNat, Int.reduceAdd, Int.reduceSub, Int.reduceMul, Int.reduceNeg, reduceCtorEq, Option.bind_some, Option.map_some, List.length_cons, List.length_nil, vcM, List.getElem?_toArray, List.getElem?_cons_zero, List.getElem?_cons_succ]) | skip
  (refine W_at c34_ok ?_; refine ⟨_, rfl, ?_⟩; simp (disch := first | omega | assumption | rfl | (simp only [vcS] <;> omega) | fail) only [↓ptV_l, ↓vcA, vcB, ↓vcD, vcE, ↓reduceIte, Nat.reduceEqDiff, Nat.reduceAdd, Nat.reduceMul, Nat.reduceLeDiff, Int.reduceLE, Int.reduceLT, Int.reduceEq, Int.reduceToNat, Int.reduceAdd, Int.reduceSub, Int.reduceMul, Int.reduceNeg, reduceCtorEq, Option.bind_some, Option.map_some, List.length_cons, List.length_nil, vcM, List.getElem?_toArray, List.getElem?_cons_zero, List.getElem?_cons_succ, Ret_returned])
end Go.Proofs
