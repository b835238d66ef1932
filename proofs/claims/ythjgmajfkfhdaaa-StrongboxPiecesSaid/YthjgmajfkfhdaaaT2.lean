/- A builder of texts: WriteByte, String. -/
import Derived.Test.YthjgmajfkfhdaaaT1
import Derived.Test.YthjgmajfkfhdaaaW3
set_option linter.unusedSimpArgs false
set_option linter.unusedVariables false
set_option linter.constructorNameAsVariable false
namespace Go.Proofs
open Go.Vc
set_option maxRecDepth 10000

/-- A builder in a block of its own, with what it holds. -/
structure BAt (w : World) (p : Nat) (v : Value) (bs : List Int) : Prop where
  at' : ∃ a, (a = .pointer none ∨ a = .pointer (some ⟨p, 0, none⟩)) ∧ w.heap[p]? = some (.cells #[a, v] 71 (0, 0))
  own : Own1 w v bs
  nil : bs = [] → v = .slice none 0 0
theorem BAt.ne {w : World} {p : Nat} {v : Value} {bs : List Int} (h : BAt w p v bs) : ¬ blk v p := fun hb => by
  obtain ⟨cur, hc⟩ := row_type h.own hb
  obtain ⟨a, _, h⟩ := h.at'
  rw [h] at hc; cases hc
theorem BAt.lt {w : World} {p : Nat} {v : Value} {bs : List Int} (h : BAt w p v bs) : p < w.heap.size := by
  obtain ⟨a, _, h⟩ := h.at'
  exact lt_of_heap h
/-- What the call's own builder is, seen from the call's beginning. -/
structure BNew (w0 w : World) (p : Nat) (v : Value) (bs : List Int) : Prop where
  is : BAt w p v bs
  ext : Ext w0 w
  lo : w0.heap.size ≤ p
  blk : ∀ g, blk v g → w0.heap.size ≤ g
theorem BNew.start (w : World) : BNew w (w.alloc (.cells #[.pointer none, .slice none 0 0] 71)) w.heap.size (.slice none 0 0) [] :=
  ⟨⟨⟨_, .inl rfl, heap_new _ _ _ rfl⟩, Own1.nil _, fun _ => rfl⟩, (Keep.refl _ w).alloc _, Nat.le_refl _, fun g h => by cases h⟩

theorem same_run {P : Program} {f : FuncId} {fn : Func} (hf : P.funcs[f]? = some fn) (hname : (fn.name == "runtime.NumGoroutine") = false) (hb : fn.body.isNone = true) (hn : Extern.findNext fn = none) (he : Extern.find fn = some Extern.AbiNoEscape.same) (w : World) (x : Value) :
    (callFunc f [x].toArray).run P w = .ok (.value x) w := by
  rw [run_callFunc_extern hf hname hb hn he]
  have e : Extern.AbiNoEscape.same [x].toArray = pure x := rfl
  rw [e]
  simp [Result.andThen, go_sem]
theorem copyCheck_ok (w : World) (p : Nat) (v : Value) (bs : List Int) (h : BAt w p v bs) :
    Calls Try.prog 50 #[.pointer (some ⟨p, 0, none⟩)] w (Ret fun _ w' => w'.heap[p]? = some (.cells #[.pointer (some ⟨p, 0, none⟩), v] 71 (0, 0)) ∧ Keep (fun i => i = p) w w') := by
  refine calls_of_cfg c50_ok (Nat.le_of_ble_eq_true rfl) ?_
  simp only [argE_nil, argE_cons, Nat.reduceAdd, Nat.zero_add]
  obtain ⟨a, ha, hp⟩ := h.at'
  have g0 : (#[a, v] : Array Value)[0]? = some a := rfl
  rcases ha with rfl | rfl
  · (refine W_at c50_ok ?_; refine ⟨_, rfl, ?_⟩; simp (disch := first | omega | assumption | rfl | (simp only [vcS] <;> omega) | fail) only [↓ptV_l, ↓vcA, vcB, ↓vcD, vcE, ↓reduceIte, Nat.reduceEqDiff, Nat.reduceAdd, Nat.reduceMul, Nat.reduceLeDiff, Int.reduceLE, Int.reduceLT, Int.reduceEq, Int.reduceToNat, Int.reduceAdd, Int.reduceSub, Int.reduceMul, Int.reduceNeg, reduceCtorEq, Option.bind_some, Option.map_some, List.length_cons, List.length_nil, vcM, List.getElem?_toArray, List.getElem?_cons_zero, List.getElem?_cons_succ, hp, g0])
    (refine W_at c50_ok ?_; refine ⟨_, rfl, ?_⟩; simp (disch := first | omega | assumption | rfl | (simp only [vcS] <;> omega) | fail) only [↓ptV_l, ↓vcA, vcB, ↓vcD, vcE, ↓reduceIte, Nat.reduceEqDiff, Nat.reduceAdd, Nat.reduceMul, Nat.reduceLeDiff, Int.reduceLE, Int.reduceLT, Int.reduceEq, Int.reduceToNat, Int.reduceAdd, Int.reduceSub, Int.reduceMul, Int.reduceNeg, reduceCtorEq, Option.bind_some, Option.map_some, List.length_cons, List.length_nil, vcM, List.getElem?_toArray, List.getElem?_cons_zero, List.getElem?_cons_succ])
    (refine W_at c50_ok ?_; refine ⟨_, rfl, ?_⟩; simp (disch := first | omega | assumption | rfl | (simp only [vcS] <;> omega) | fail) only [↓ptV_l, ↓vcA, vcB, ↓vcD, vcE, ↓reduceIte, Nat.reduceEqDiff, Nat.reduceAdd, Nat.reduceMul, Nat.reduceLeDiff, Int.reduceLE, Int.reduceLT, Int.reduceEq, Int.reduceToNat, Int.reduceAdd, Int.reduceSub, Int.reduceMul, Int.reduceNeg, reduceCtorEq, Option.bind_some, Option.map_some, List.length_cons, List.length_nil, vcM, List.getElem?_toArray, List.getElem?_cons_zero, List.getElem?_cons_succ, hp])
    have hi : (Try.prog.info? 71).map (fun i => decide (i.size = 0)) = some false := by kernel_rfl
    obtain ⟨j, hj, hjs⟩ := Option.map_eq_some_iff.1 hi
    have hjs : j.size ≠ 0 := of_decide_eq_false hjs
    have hsh : w.shape? p = some (71, 2) := by simp [World.shape?, hp]
    refine ⟨_, _, Lib.run_to_unsafe _ _ Try.underlying69 Try.underlying95 hj hjs hsh (by simp), ?_⟩
    first | (simp (disch := first | omega | assumption | rfl | (simp only [vcS] <;> omega) | fail) only [↓ptV_l, ↓vcA, vcB, ↓vcD, vcE, ↓reduceIte, Nat.reduceEqDiff, Nat.reduceAdd, Nat.reduceMul, Nat.reduceLeDiff, Int.reduceLE, Int.reduceLT, Int.reduceEq, Int.reduceToNat, Int.reduceAdd, Int.reduceSub, Int.reduceMul, Int.reduceNeg, reduceCtorEq, Option.bind_some, Option.map_some, List.length_cons, List.length_nil, vcM, List.getElem?_toArray, List.getElem?_cons_zero, List.getElem?_cons_succ]) | skip
    refine ⟨_, _, same_run Try.func56 (by kernel_rfl) (by kernel_rfl) (by kernel_rfl) (by kernel_rfl) _ _, ?_⟩
    first | (simp (disch := first | omega | assumption | rfl | (simp only [vcS] <;> omega) | fail) only [↓ptV_l, ↓vcA, vcB, ↓vcD, vcE, ↓reduceIte, Nat.reduceEqDiff, Nat.reduceAdd, Nat.reduceMul, Nat.reduceLeDiff, Int.reduceLE, Int.reduceLT, Int.reduceEq, Int.reduceToNat, Int.reduceAdd, Int.reduceSub, Int.reduceMul, Int.reduceNeg, reduceCtorEq, Option.bind_some, Option.map_some, List.length_cons, List.length_nil, vcM, List.getElem?_toArray, List.getElem?_cons_zero, List.getElem?_cons_succ]) | skip
    refine ⟨_, _, Lib.run_from_unsafe _ _ Try.underlying95 Try.underlying69 hj hsh (by kernel_rfl), ?_⟩
    first | (simp (disch := first | omega | assumption | rfl | (simp only [vcS] <;> omega) | fail) only [↓ptV_l, ↓vcA, vcB, ↓vcD, vcE, ↓reduceIte, Nat.reduceEqDiff, Nat.reduceAdd, Nat.reduceMul, Nat.reduceLeDiff, Int.reduceLE, Int.reduceLT, Int.reduceEq, Int.reduceToNat, Int.reduceAdd, Int.reduceSub, Int.reduceMul, Int.reduceNeg, reduceCtorEq, Option.bind_some, Option.map_some, List.length_cons, List.length_nil, vcM, List.getElem?_toArray, List.getElem?_cons_zero, List.getElem?_cons_succ, hp]) | skip
    refine ⟨wr1_of hp (by simp), ?_⟩
    have hp2 : (w.setCell ⟨p, 0, none⟩ (.pointer (some ⟨p, 0, none⟩))).heap[p]? = some (.cells #[.pointer (some ⟨p, 0, none⟩), v] 71 (0, 0)) := by rw [heap_setCell_eq hp]; rfl
    have k2 : Keep (fun i => i = p) w (w.setCell ⟨p, 0, none⟩ (.pointer (some ⟨p, 0, none⟩))) := (Keep.refl _ w).setCell _ fun _ => rfl
    generalize World.setCell _ _ _ = w2 at hp2 k2 ⊢
    (refine W_at c50_ok ?_; refine ⟨_, rfl, ?_⟩; simp (disch := first | omega | assumption | rfl | (simp only [vcS] <;> omega) | fail) only [↓ptV_l, ↓vcA, vcB, ↓vcD, vcE, ↓reduceIte, Nat.reduceEqDiff, Nat.reduceAdd, Nat.reduceMul, Nat.reduceLeDiff, Int.reduceLE, Int.reduceLT, Int.reduceEq, Int.reduceToNat, Int.reduceAdd, Int.reduceSub, Int.reduceMul, Int.reduceNeg, reduceCtorEq, Option.bind_some, Option.map_some, List.length_cons, List.length_nil, vcM, List.getElem?_toArray, List.getElem?_cons_zero, List.getElem?_cons_succ, Ret_returned])
    exact ⟨hp2, k2⟩
  · (refine W_at c50_ok ?_; refine ⟨_, rfl, ?_⟩; simp (disch := first | omega | assumption | rfl | (simp only [vcS] <;> omega) | fail) only [↓ptV_l, ↓vcA, vcB, ↓vcD, vcE, ↓reduceIte, Nat.reduceEqDiff, Nat.reduceAdd, Nat.reduceMul, Nat.reduceLeDiff, Int.reduceLE, Int.reduceLT, Int.reduceEq, Int.reduceToNat, Int.reduceAdd, Int.reduceSub, Int.reduceMul, Int.reduceNeg, reduceCtorEq, Option.bind_some, Option.map_some, List.length_cons, List.length_nil, vcM, List.getElem?_toArray, List.getElem?_cons_zero, List.getElem?_cons_succ, hp, g0])
    (refine W_at c50_ok ?_; refine ⟨_, rfl, ?_⟩; simp (disch := first | omega | assumption | rfl | (simp only [vcS] <;> omega) | fail) only [↓ptV_l, ↓vcA, vcB, ↓vcD, vcE, ↓reduceIte, Nat.reduceEqDiff, Nat.reduceAdd, Nat.reduceMul, Nat.reduceLeDiff, Int.reduceLE, Int.reduceLT, Int.reduceEq, Int.reduceToNat, Int.reduceAdd, Int.reduceSub, Int.reduceMul, Int.reduceNeg, reduceCtorEq, Option.bind_some, Option.map_some, List.length_cons, List.length_nil, vcM, List.getElem?_toArray, List.getElem?_cons_zero, List.getElem?_cons_succ])
    (refine W_at c50_ok ?_; refine ⟨_, rfl, ?_⟩; simp (disch := first | omega | assumption | rfl | (simp only [vcS] <;> omega) | fail) only [↓ptV_l, ↓vcA, vcB, ↓vcD, vcE, ↓reduceIte, Nat.reduceEqDiff, Nat.reduceAdd, Nat.reduceMul, Nat.reduceLeDiff, Int.reduceLE, Int.reduceLT, Int.reduceEq, Int.reduceToNat, Int.reduceAdd, Int.reduceSub, Int.reduceMul, Int.reduceNeg, reduceCtorEq, Option.bind_some, Option.map_some, List.length_cons, List.length_nil, vcM, List.getElem?_toArray, List.getElem?_cons_zero, List.getElem?_cons_succ, hp, g0, eqP_pp])
    (refine W_at c50_ok ?_; refine ⟨_, rfl, ?_⟩; simp (disch := first | omega | assumption | rfl | (simp only [vcS] <;> omega) | fail) only [↓ptV_l, ↓vcA, vcB, ↓vcD, vcE, ↓reduceIte, Nat.reduceEqDiff, Nat.reduceAdd, Nat.reduceMul, Nat.reduceLeDiff, Int.reduceLE, Int.reduceLT, Int.reduceEq, Int.reduceToNat, Int.reduceAdd, Int.reduceSub, Int.reduceMul, Int.reduceNeg, reduceCtorEq, Option.bind_some, Option.map_some, List.length_cons, List.length_nil, vcM, List.getElem?_toArray, List.getElem?_cons_zero, List.getElem?_cons_succ])
    (refine W_at c50_ok ?_; refine ⟨_, rfl, ?_⟩; simp (disch := first | omega | assumption | rfl | (simp only [vcS] <;> omega) | fail) only [↓ptV_l, ↓vcA, vcB, ↓vcD, vcE, ↓reduceIte, Nat.reduceEqDiff, Nat.reduceAdd, Nat.reduceMul, Nat.reduceLeDiff, Int.reduceLE, Int.reduceLT, Int.reduceEq, Int.reduceToNat, Int.reduceAdd, Int.reduceSub, Int.reduceMul, Int.reduceNeg, reduceCtorEq, Option.bind_some, Option.map_some, List.length_cons, List.length_nil, vcM, List.getElem?_toArray, List.getElem?_cons_zero, List.getElem?_cons_succ, Ret_returned])
    exact ⟨hp, Keep.refl _ w⟩
theorem writeByte_ok2 (w0 w : World) (p : Nat) (v : Value) (bs : List Int) (c : Int) (h : BNew w0 w p v bs) (hl : bs.length ≤ 100000000) :
    Calls Try.prog 36 #[.pointer (some ⟨p, 0, none⟩), .int .u8 c] w (Ret fun _ w' => ∃ v', BNew w0 w' p v' (bs ++ [c]) ∧ Keep (fun g => g = p ∨ blk v g) w w' ∧ ∀ g, blk v' g → blk v g ∨ w.heap.size ≤ g) := by
  refine calls_of_cfg c36_ok (Nat.le_of_ble_eq_true rfl) ?_
  simp only [argE_nil, argE_cons, Nat.reduceAdd, Nat.zero_add]
  (refine W_at c36_ok ?_; refine ⟨_, rfl, ?_⟩; simp (disch := first | omega | assumption | rfl | (simp only [vcS] <;> omega) | fail) only [↓ptV_l, ↓vcA, vcB, ↓vcD, vcE, ↓reduceIte, Nat.reduceEqDiff, Nat.reduceAdd, Nat.reduceMul, Nat.reduceLeDiff, Int.reduceLE, Int.reduceLT, Int.reduceEq, Int.reduceToNat, Int.reduceAdd, Int.reduceSub, Int.reduceMul, Int.reduceNeg, reduceCtorEq, Option.bind_some, Option.map_some, List.length_cons, List.length_nil, vcM, List.getElem?_toArray, List.getElem?_cons_zero, List.getElem?_cons_succ])
  (refine W_at c36_ok ?_; refine ⟨_, rfl, ?_⟩; simp (disch := first | omega | assumption | rfl | (simp only [vcS] <;> omega) | fail) only [↓ptV_l, ↓vcA, vcB, ↓vcD, vcE, ↓reduceIte, Nat.reduceEqDiff, Nat.reduceAdd, Nat.reduceMul, Nat.reduceLeDiff, Int.reduceLE, Int.reduceLT, Int.reduceEq, Int.reduceToNat, Int.reduceAdd, Int.reduceSub, Int.reduceMul, Int.reduceNeg, reduceCtorEq, Option.bind_some, Option.map_some, List.length_cons, List.length_nil, vcM, List.getElem?_toArray, List.getElem?_cons_zero, List.getElem?_cons_succ])
  refine callV_ret (copyCheck_ok w p v bs h.is) ?_
  rintro _ w1 ⟨hp1, k1⟩
  first | (simp (disch := first | omega | assumption | rfl | (simp only [vcS] <;> omega) | fail) only [↓ptV_l, ↓vcA, vcB, ↓vcD, vcE, ↓reduceIte, Nat.reduceEqDiff, Nat.reduceAdd, Nat.reduceMul, Nat.reduceLeDiff, Int.reduceLE, Int.reduceLT, Int.reduceEq, Int.reduceToNat, Int.reduceAdd, Int.reduceSub, Int.reduceMul, Int.reduceNeg, reduceCtorEq, Option.bind_some, Option.map_some, List.length_cons, List.length_nil, vcM, List.getElem?_toArray, List.getElem?_cons_zero, List.getElem?_cons_succ]) | skip
  have ho1 : Own1 w1 v bs := h.is.own.keep k1 fun g hg e => h.is.ne (e ▸ hg)
  have hpl := h.is.lt
  have g1 : (#[.pointer (some ⟨p, 0, none⟩), v] : Array Value)[1]? = some v := rfl
  (refine W_at c36_ok ?_; refine ⟨_, rfl, ?_⟩; simp (disch := first | omega | assumption | rfl | (simp only [vcS] <;> omega) | fail) only [↓ptV_l, ↓vcA, vcB, ↓vcD, vcE, ↓reduceIte, Nat.reduceEqDiff, Nat.reduceAdd, Nat.reduceMul, Nat.reduceLeDiff, Int.reduceLE, Int.reduceLT, Int.reduceEq, Int.reduceToNat, Int.reduceAdd, Int.reduceSub, Int.reduceMul, Int.reduceNeg, reduceCtorEq, Option.bind_some, Option.map_some, List.length_cons, List.length_nil, vcM, List.getElem?_toArray, List.getElem?_cons_zero, List.getElem?_cons_succ, hp1, g1])
  refine appL (news := [c]) ho1 (by simp; omega) fun v' w2 h1 h2 h3 => ?_
  have hp2 : w2.heap[p]? = some (.cells #[.pointer (some ⟨p, 0, none⟩), v] 71 (0, 0)) := h2.at hp1 h.is.ne
  refine ⟨one_row h1, wr1_of hp2 (by simp), ?_⟩
  have hp3 : (w2.setCell ⟨p, 1, none⟩ v').heap[p]? = some (.cells #[.pointer (some ⟨p, 0, none⟩), v'] 71 (0, 0)) := by rw [heap_setCell_eq hp2]; rfl
  have k3 : Keep (fun i => i = p) w2 (w2.setCell ⟨p, 1, none⟩ v') := (Keep.refl _ w2).setCell _ fun _ => rfl
  generalize World.setCell _ _ _ = w3 at hp3 k3 ⊢
  (refine W_at c36_ok ?_; refine ⟨_, rfl, ?_⟩; simp (disch := first | omega | assumption | rfl | (simp only [vcS] <;> omega) | fail) only [↓ptV_l, ↓vcA, vcB, ↓vcD, vcE, ↓reduceIte, Nat.reduceEqDiff, Nat.reduceAdd, Nat.reduceMul, Nat.reduceLeDiff, Int.reduceLE, Int.reduceLT, Int.reduceEq, Int.reduceToNat, Int.reduceAdd, Int.reduceSub, Int.reduceMul, Int.reduceNeg, reduceCtorEq, Option.bind_some, Option.map_some, List.length_cons, List.length_nil, vcM, List.getElem?_toArray, List.getElem?_cons_zero, List.getElem?_cons_succ])
  (refine W_at c36_ok ?_; refine ⟨_, rfl, ?_⟩; simp (disch := first | omega | assumption | rfl | (simp only [vcS] <;> omega) | fail) only [↓ptV_l, ↓vcA, vcB, ↓vcD, vcE, ↓reduceIte, Nat.reduceEqDiff, Nat.reduceAdd, Nat.reduceMul, Nat.reduceLeDiff, Int.reduceLE, Int.reduceLT, Int.reduceEq, Int.reduceToNat, Int.reduceAdd, Int.reduceSub, Int.reduceMul, Int.reduceNeg, reduceCtorEq, Option.bind_some, Option.map_some, List.length_cons, List.length_nil, vcM, List.getElem?_toArray, List.getElem?_cons_zero, List.getElem?_cons_succ, Ret_returned])
  have hlo := h.lo
  have hb3 : ∀ g, blk v' g → w0.heap.size ≤ g ∧ g ≠ p := fun g hg => by
    rcases h3 g hg with hh | hh
    · exact ⟨h.blk g hh, fun e => h.is.ne (e ▸ hh)⟩
    · have := k1.size; exact ⟨by omega, by omega⟩
  refine ⟨v', ⟨⟨⟨_, .inr rfl, hp3⟩, h1.keep k3 fun g hg e => (hb3 g hg).2 e, fun e => by simp at e⟩, ?_, h.lo, fun g hg => (hb3 g hg).1⟩, ((k1.mono fun _ h => .inl h).trans h2 fun i hi hb => .inr hb).trans k3 fun i hi e => .inl e, fun g hg => (h3 g hg).elim .inl fun hh => .inr (Nat.le_trans k1.size hh)⟩
  refine ((h.ext.trans k1 fun i hi e => ?_).trans h2 fun i hi hg => ?_).trans k3 fun i hi e => ?_
  · omega
  · have := h.blk i hg; omega
  · omega
theorem writeByte_ok (w0 w : World) (p : Nat) (v : Value) (bs : List Int) (c : Int) (h : BNew w0 w p v bs) (hl : bs.length ≤ 100000000) :
    Calls Try.prog 36 #[.pointer (some ⟨p, 0, none⟩), .int .u8 c] w (Ret fun _ w' => ∃ v', BNew w0 w' p v' (bs ++ [c])) := by
  refine Calls.mono (writeByte_ok2 w0 w p v bs c h hl) ?_
  rintro en w' ⟨u, e, v', h1, _⟩
  exact ⟨u, e, v', h1⟩
theorem bix_sd {P : Program} {ts : List TypeId} {ty : TypeId} {cs : List Bool} {vs : List Value} {w w' : World} {v : Value} {K : Value → World → Prop} (h : (Builtin.unsafeSliceData_ ts.toArray ty vs.toArray).run P w = .ok v w') (hk : K v w') : bixV P .unsafeSliceData ts ty cs vs w K := by
  refine ⟨v, w', ?_, hk⟩
  show (do pure (Next.value (← Builtin.unsafeSliceData_ ts.toArray ty vs.toArray)) : Sem Next).run P w = _
  rw [Sem.run_bind, h]
  rfl
theorem bix_us {P : Program} {ts : List TypeId} {ty : TypeId} {cs : List Bool} {vs : List Value} {w w' : World} {v : Value} {K : Value → World → Prop} (h : (Builtin.unsafeString_ ts.toArray ty vs.toArray).run P w = .ok v w') (hk : K v w') : bixV P .unsafeString ts ty cs vs w K := by
  refine ⟨v, w', ?_, hk⟩
  show (do pure (Next.value (← Builtin.unsafeString_ ts.toArray ty vs.toArray)) : Sem Next).run P w = _
  rw [Sem.run_bind, h]
  rfl
theorem Keep.freeze {S : Nat → Prop} {a w : World} (h : Keep S a w) {g o n : Nat} (hg : g < a.heap.size → S g) : Keep S a (w.freeze ⟨g, o, none⟩ n) := by
  unfold World.freeze
  split
  · exact h
  · refine ⟨h.os, h.tape, h.output, ?_, fun k hk hs => ?_⟩
    · have := h.size; simpa using this
    · have hne : g ≠ k := by rintro rfl; exact hs (hg hk)
      show (w.heap.modify g _)[k]? = _
      rw [Array.getElem?_modify, if_neg hne]
      exact h.block k hk hs
theorem string_ok (w : World) (p : Nat) (v : Value) (bs : List Int) (h : BAt w p v bs) (hb : byt bs) :
    Calls Try.prog 37 #[.pointer (some ⟨p, 0, none⟩)] w (Ret fun u w' => u = .string (strOf bs) ∧ Keep (fun i => blk v i) w w') := by
  refine calls_of_cfg c37_ok (Nat.le_of_ble_eq_true rfl) ?_
  simp only [argE_nil, argE_cons, Nat.reduceAdd, Nat.zero_add]
  obtain ⟨a, _, hp⟩ := h.at'
  have g1 : (#[a, v] : Array Value)[1]? = some v := rfl
  have hlen := h.own.rd.len
  (refine W_at c37_ok ?_; refine ⟨_, rfl, ?_⟩; simp (disch := first | omega | assumption | rfl | (simp only [vcS] <;> omega) | fail) only [↓ptV_l, ↓vcA, vcB, ↓vcD, vcE, ↓reduceIte, Nat.reduceEqDiff, Nat.reduceAdd, Nat.reduceMul, Nat.reduceLeDiff, Int.reduceLE, Int.reduceLT, Int.reduceEq, Int.reduceToNat, Int.reduceAdd, Int.reduceSub, Int.reduceMul, Int.reduceNeg, reduceCtorEq, Option.bind_some, Option.map_some, List.length_cons, List.length_nil, vcM, List.getElem?_toArray, List.getElem?_cons_zero, List.getElem?_cons_succ])
  by_cases h0 : bs = []
  · obtain rfl := h.nil h0
    subst h0
    (refine W_at c37_ok ?_; refine ⟨_, rfl, ?_⟩; simp (disch := first | omega | assumption | rfl | (simp only [vcS] <;> omega) | fail) only [↓ptV_l, ↓vcA, vcB, ↓vcD, vcE, ↓reduceIte, Nat.reduceEqDiff, Nat.reduceAdd, Nat.reduceMul, Nat.reduceLeDiff, Int.reduceLE, Int.reduceLT, Int.reduceEq, Int.reduceToNat, Int.reduceAdd, Int.reduceSub, Int.reduceMul, Int.reduceNeg, reduceCtorEq, Option.bind_some, Option.map_some, List.length_cons, List.length_nil, vcM, List.getElem?_toArray, List.getElem?_cons_zero, List.getElem?_cons_succ, hp, g1])
    refine bix_sd (Lib.run_unsafeSliceData_nil _ _ _ _ _) ?_
    first | (simp (disch := first | omega | assumption | rfl | (simp only [vcS] <;> omega) | fail) only [↓ptV_l, ↓vcA, vcB, ↓vcD, vcE, ↓reduceIte, Nat.reduceEqDiff, Nat.reduceAdd, Nat.reduceMul, Nat.reduceLeDiff, Int.reduceLE, Int.reduceLT, Int.reduceEq, Int.reduceToNat, Int.reduceAdd, Int.reduceSub, Int.reduceMul, Int.reduceNeg, reduceCtorEq, Option.bind_some, Option.map_some, List.length_cons, List.length_nil, vcM, List.getElem?_toArray, List.getElem?_cons_zero, List.getElem?_cons_succ, hp, g1]) | skip
    refine bix_us (Lib.run_unsafeString_none _ _ _ _ _) ?_
    first | (simp (disch := first | omega | assumption | rfl | (simp only [vcS] <;> omega) | fail) only [↓ptV_l, ↓vcA, vcB, ↓vcD, vcE, ↓reduceIte, Nat.reduceEqDiff, Nat.reduceAdd, Nat.reduceMul, Nat.reduceLeDiff, Int.reduceLE, Int.reduceLT, Int.reduceEq, Int.reduceToNat, Int.reduceAdd, Int.reduceSub, Int.reduceMul, Int.reduceNeg, reduceCtorEq, Option.bind_some, Option.map_some, List.length_cons, List.length_nil, vcM, List.getElem?_toArray, List.getElem?_cons_zero, List.getElem?_cons_succ]) | skip
    (refine W_at c37_ok ?_; refine ⟨_, rfl, ?_⟩; simp (disch := first | omega | assumption | rfl | (simp only [vcS] <;> omega) | fail) only [↓ptV_l, ↓vcA, vcB, ↓vcD, vcE, ↓reduceIte, Nat.reduceEqDiff, Nat.reduceAdd, Nat.reduceMul, Nat.reduceLeDiff, Int.reduceLE, Int.reduceLT, Int.reduceEq, Int.reduceToNat, Int.reduceAdd, Int.reduceSub, Int.reduceMul, Int.reduceNeg, reduceCtorEq, Option.bind_some, Option.map_some, List.length_cons, List.length_nil, vcM, List.getElem?_toArray, List.getElem?_cons_zero, List.getElem?_cons_succ, Ret_returned])
    exact ⟨rfl, (Keep.refl _ w).drew⟩
  · have hown : w.drew.ownsRow 0 5 1 v bs.length (bv bs) := h.own.ext ((Keep.refl _ w).drew)
    have hpd : w.drew.heap[p]? = some (.cells #[a, v] 71 (0, 0)) := hp
    have hbs : bs.length ≠ 0 := fun e => h0 (List.eq_nil_of_length_eq_zero e)
    (refine W_at c37_ok ?_; refine ⟨_, rfl, ?_⟩; simp (disch := first | omega | assumption | rfl | (simp only [vcS] <;> omega) | fail) only [↓ptV_l, ↓vcA, vcB, ↓vcD, vcE, ↓reduceIte, Nat.reduceEqDiff, Nat.reduceAdd, Nat.reduceMul, Nat.reduceLeDiff, Int.reduceLE, Int.reduceLT, Int.reduceEq, Int.reduceToNat, Int.reduceAdd, Int.reduceSub, Int.reduceMul, Int.reduceNeg, reduceCtorEq, Option.bind_some, Option.map_some, List.length_cons, List.length_nil, vcM, List.getElem?_toArray, List.getElem?_cons_zero, List.getElem?_cons_succ, hp, g1, hlen])
    obtain ⟨g, cap, cur, rfl, hg, hnc, hcm, hcs⟩ : ∃ g cap cur, v = .slice (some ⟨g, 0, none⟩) bs.length cap ∧ w.drew.heap[g]? = some (.cells cur 5 (0, 0)) ∧ bs.length ≤ cap ∧ cap ≤ maxLen ∧ cur.size = cap * 1 := by
      rcases hown.2 with ⟨_, hz⟩ | ⟨g, cap, cur, hv, _, hg, hn, hcm, hcs, _⟩
      · exact absurd hz hbs
      · exact ⟨g, cap, cur, hv, hg, hn, hcm, hcs⟩
    refine bix_sd (Lib.run_unsafeSliceData_row _ _ _ _ _ _ (by omega)) ?_
    refine ⟨by rw [hpd]; rfl, ?_⟩
    have hl : (bs.map fun m => UInt8.ofNat m.toNat).length = bs.length := List.length_map _
    have hml : maxLen = 9223372036854775807 := rfl
    have hUS := Lib.run_unsafeString_row (P := Try.prog) w.drew 93 3 9 5 Try.underlying93 (by kernel_rfl) g cur.size (by simp [World.shape?, hg]) (bs.map fun m => UInt8.ofNat m.toNat) (by simpa using h0) (by rw [hl]; omega) (by rw [hl]; omega) (by
      intro j x hx
      refine hown.cells (g := g) rfl j (.int .u8 x.toNat) ?_
      rw [List.getElem?_map] at hx
      cases hj : bs[j]? with
      | none => rw [hj] at hx; cases hx
      | some m =>
        rw [hj] at hx
        obtain rfl := Option.some.inj hx
        have hm := hb m (List.mem_of_getElem? hj)
        simp only [bv, List.getElem?_map, hj, Option.map_some, u8i hm])
    rw [hl] at hUS
    refine bix_us hUS ?_
    (refine W_at c37_ok ?_; refine ⟨_, rfl, ?_⟩; simp (disch := first | omega | assumption | rfl | (simp only [vcS] <;> omega) | fail) only [↓ptV_l, ↓vcA, vcB, ↓vcD, vcE, ↓reduceIte, Nat.reduceEqDiff, Nat.reduceAdd, Nat.reduceMul, Nat.reduceLeDiff, Int.reduceLE, Int.reduceLT, Int.reduceEq, Int.reduceToNat, Int.reduceAdd, Int.reduceSub, Int.reduceMul, Int.reduceNeg, reduceCtorEq, Option.bind_some, Option.map_some, List.length_cons, List.length_nil, vcM, List.getElem?_toArray, List.getElem?_cons_zero, List.getElem?_cons_succ, Ret_returned])
    refine ⟨rfl, Keep.freeze ((Keep.refl _ w).drew) fun _ => rfl⟩
end Go.Proofs
