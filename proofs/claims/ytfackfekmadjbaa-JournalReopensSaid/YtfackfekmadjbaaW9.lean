/- The program's reader: bytes; what it was opened with; how it is closed. -/
import Derived.Test.YtfackfekmadjbaaW8
set_option linter.unusedSimpArgs false
set_option linter.unusedVariables false
set_option linter.constructorNameAsVariable false
namespace Go.Proofs
open Go.Vc
set_option maxRecDepth 10000

/-- Bytes that a call made. -/
def OwnN (m : Nat) (a : List Int) (u : Value) (w' : World) : Prop := Own1 w' u a ∧ ∀ g, blk u g → m ≤ g
theorem OwnN.stable {m : Nat} {a : List Int} {u : Value} {w' w'' : World} {p : Nat} {c : Array Value} (h : OwnN m a u w') (hp : w'.heap[p]? = some (.cells c 30 (0, 0))) (hk : Keep (fun i => i = p) w' w'') : OwnN m a u w'' := by
  refine ⟨h.1.keep hk ?_, h.2⟩
  rintro g hg rfl
  obtain ⟨cur, hc⟩ := row_type h.1 hg
  rw [hp] at hc; cases hc

def rawR (n : Int) (bs : List Int) : Except Int (List Int × List Int) := if n.toNat ≤ bs.length then .ok (bs.take n.toNat, bs.drop n.toNat) else .error 4
theorem Raw1_ok (w : World) (m r B b3 : Nat) (v : Value) (bs : List Int) (e n : Int) (h : RAt w r B v bs e) (hn : w.heap[b3]? = some (.cells #[.int .i64 n] 3 (0, 0))) (hl : bs.length ≤ 1000000000) (hm : m ≤ w.heap.size) :
    Calls Try.prog 64 #[.pointer (some ⟨r, 0, none⟩), .pointer (some ⟨b3, 0, none⟩)] w (REnd w r B e (toOk (rawR n bs) (OwnN m)) (toEr (rawR n bs))) := by
  refine calls_of_cfg c64_ok (Nat.le_of_ble_eq_true rfl) ?_
  simp only [argE_nil, argE_cons, Nat.reduceAdd, Nat.zero_add]
  (refine W_at c64_ok ?_; refine ⟨_, rfl, ?_⟩; simp (disch := first | omega | assumption | rfl | (simp only [vcS] <;> omega) | fail) only [↓ptV_l, ↓vcA, vcB, ↓vcD, vcE, ↓reduceIte, Nat.reduceEqDiff, Nat.reduceAdd, Nat.reduceMul, Nat.reduceLeDiff, Int.reduceLE, Int.reduceLT, Int.reduceEq, Int.reduceToNat, Int.reduceAdd, Int.reduceSub, Int.reduceMul, Int.reduceNeg, reduceCtorEq, Option.bind_some, Option.map_some, List.length_cons, List.length_nil, vcM, List.getElem?_toArray, List.getElem?_cons_zero, List.getElem?_cons_succ])
  have hmx : max n 0 = ((n.toNat : Nat) : Int) := by omega
  (refine W_at c64_ok ?_; refine ⟨_, rfl, ?_⟩; simp (disch := first | omega | assumption | rfl | (simp only [vcS] <;> omega) | fail) only [↓ptV_l, ↓vcA, vcB, ↓vcD, vcE, ↓reduceIte, Nat.reduceEqDiff, Nat.reduceAdd, Nat.reduceMul, Nat.reduceLeDiff, Int.reduceLE, Int.reduceLT, Int.reduceEq, Int.reduceToNat, Int.reduceAdd, Int.reduceSub, Int.reduceMul, Int.reduceNeg, reduceCtorEq, Option.bind_some, Option.map_some, List.length_cons, List.length_nil, vcM, List.getElem?_toArray, List.getElem?_cons_zero, List.getElem?_cons_succ, hn, hmx])
  refine callR (take_ok w r B v bs e n.toNat h) (Keep.refl _ w) ?_ ?_
  · intro rest φ hok u w1 v1 hk hφ hR
    by_cases hle : n.toNat ≤ bs.length
    · rw [if_pos hle] at hok
      simp only [Option.some.injEq, Prod.mk.injEq] at hok
      obtain ⟨rfl, rfl⟩ := hok
      have hr : rawR n bs = .ok (bs.take n.toNat, bs.drop n.toNat) := by rw [rawR, if_pos hle]
      rw [hr]
      refine callV_ret (clone_ok w1 u _ hφ (by rw [List.length_take]; omega)) ?_
      rintro u2 w2 ⟨h1, h2, h3⟩
      (refine W_at c64_ok ?_; refine ⟨_, rfl, ?_⟩; simp (disch := first | omega | assumption | rfl | (simp only [vcS] <;> omega) | fail) only [↓ptV_l, ↓vcA, vcB, ↓vcD, vcE, ↓reduceIte, Nat.reduceEqDiff, Nat.reduceAdd, Nat.reduceMul, Nat.reduceLeDiff, Int.reduceLE, Int.reduceLT, Int.reduceEq, Int.reduceToNat, Int.reduceAdd, Int.reduceSub, Int.reduceMul, Int.reduceNeg, reduceCtorEq, Option.bind_some, Option.map_some, List.length_cons, List.length_nil, vcM, List.getElem?_toArray, List.getElem?_cons_zero, List.getElem?_cons_succ])
      exact ⟨hk.ext h2, _, v1, rfl, ⟨h1, fun g hg => Nat.le_trans (Nat.le_trans hm hk.size) (h3 g hg)⟩, hR.ext h2⟩
    · rw [if_neg hle] at hok; cases hok
  · intro hok
    split at hok
    · cases hok
    · rename_i hle; rw [rawR, if_neg hle]; exact ⟨rfl, rfl⟩
theorem rRaw_ok (w : World) (r B : Nat) (v : Value) (bs : List Int) (e n : Int) (h : RAt w r B v bs e) (hBw : B < w.heap.size) (hl : bs.length ≤ 1000000000) :
    Calls Try.prog 47 #[.pointer (some ⟨r, 0, none⟩), .int .i64 n] w (Ret fun u w' => RTo w w' r B v bs e (rawR n bs) (OwnN w.heap.size) (.slice none 0 0) u) := by
  refine calls_of_cfg c47_ok (Nat.le_of_ble_eq_true rfl) ?_
  simp only [argE_nil, argE_cons, Nat.reduceAdd, Nat.zero_add]
  (refine W_at c47_ok ?_; refine ⟨_, rfl, ?_⟩; simp (disch := first | omega | assumption | rfl | (simp only [vcS] <;> omega) | fail) only [↓ptV_l, ↓vcA, vcB, ↓vcD, vcE, ↓reduceIte, Nat.reduceEqDiff, Nat.reduceAdd, Nat.reduceMul, Nat.reduceLeDiff, Int.reduceLE, Int.reduceLT, Int.reduceEq, Int.reduceToNat, Int.reduceAdd, Int.reduceSub, Int.reduceMul, Int.reduceNeg, reduceCtorEq, Option.bind_some, Option.map_some, List.length_cons, List.length_nil, vcM, List.getElem?_toArray, List.getElem?_cons_zero, List.getElem?_cons_succ])
  have hE0 : Ext w (w.alloc (Obj.cells #[.int .i64 n] 3)) := by (repeat' first | exact Keep.refl _ _ | assumption | refine Keep.drew ?_ | refine Keep.alloc ?_ _ | refine Keep.putN ?_ _ ?_ | refine Keep.setCell ?_ _ ?_ | refine Keep.setO ?_ _ ?_ | exact fun _ => Or.inl rfl | exact fun _ => Or.inr rfl | exact fun _ => rfl | (intro hh; exfalso; ((try simp only [vcS] at hh) <;> omega)))
  have h3 : (w.alloc (Obj.cells #[.int .i64 n] 3)).heap[w.heap.size]? = some (.cells #[.int .i64 n] 3 (0, 0)) := heap_new _ _ _ rfl
  generalize hm : w.heap.size = b3 at h3 hBw ⊢
  generalize World.alloc _ _ = w0 at hE0 h3 ⊢
  have hs0 := hE0.size
  (refine W_at c47_ok ?_; refine ⟨_, rfl, ?_⟩; simp (disch := first | omega | assumption | rfl | (simp only [vcS] <;> omega) | fail) only [↓ptV_l, ↓vcA, vcB, ↓vcD, vcE, ↓reduceIte, Nat.reduceEqDiff, Nat.reduceAdd, Nat.reduceMul, Nat.reduceLeDiff, Int.reduceLE, Int.reduceLT, Int.reduceEq, Int.reduceToNat, Int.reduceAdd, Int.reduceSub, Int.reduceMul, Int.reduceNeg, reduceCtorEq, Option.bind_some, Option.map_some, List.length_cons, List.length_nil, vcM, List.getElem?_toArray, List.getElem?_cons_zero, List.getElem?_cons_succ])
  refine callV_ret (try_ok (ty := 30) c63_ok c70_ok (by kernel_rfl) rfl (by decide) w0 64 #[.pointer (some ⟨b3, 0, none⟩)] (by kernel_rfl) r B v bs e (h.ext hE0) (by omega) (rawR n bs) (OwnN b3)
    (fun he w1 hE => ?_) (fun a u w' hu => one_row hu.1) (fun a u w' w'' p c _ hp hk hu => hu.stable hp hk)) ?_
  · subst he
    exact Raw1_ok w1 b3 r B b3 v bs 0 n ((h.ext hE0).ext hE) (hE.at h3 fun h => h) hl (by have := hE.size; omega)
  · intro u w1 hT
    (refine W_at c47_ok ?_; refine ⟨_, rfl, ?_⟩; simp (disch := first | omega | assumption | rfl | (simp only [vcS] <;> omega) | fail) only [↓ptV_l, ↓vcA, vcB, ↓vcD, vcE, ↓reduceIte, Nat.reduceEqDiff, Nat.reduceAdd, Nat.reduceMul, Nat.reduceLeDiff, Int.reduceLE, Int.reduceLT, Int.reduceEq, Int.reduceToNat, Int.reduceAdd, Int.reduceSub, Int.reduceMul, Int.reduceNeg, reduceCtorEq, Option.bind_some, Option.map_some, List.length_cons, List.length_nil, vcM, List.getElem?_toArray, List.getElem?_cons_zero, List.getElem?_cons_succ, Ret_returned])
    exact ⟨(hE0.mono fun _ h => h.elim).trans hT.keep fun _ _ h => h, hT.was, hT.ok, hT.er⟩

def bytR (most : Int) (bs : List Int) : Except Int (List Int × List Int) :=
  match szR bs with
  | .error n => .error n
  | .ok (n, rest) => if most < n then .error 2 else rawR n rest
theorem szR_num {bs : List Int} (hb : byt bs) {n : Int} {rest : List Int} (h : szR bs = .ok (n, rest)) : 0 ≤ n ∧ n ≤ 33554432 ∧ ∃ k, rest = bs.drop k := by
  cases bs with
  | nil => cases h
  | cons f t =>
    have hf := hb f (by simp)
    have hbt : byt t := fun x hx => hb x (by simp [hx])
    simp only [szR] at h
    split at h
    · cases h; exact ⟨by omega, by omega, 1, rfl⟩
    split at h
    · cases h
    split at h
    · cases h
    split at h
    · cases h
    · cases h
      have := valF_lt (byt_take hbt (szK f))
      exact ⟨this.1, by omega, szK f + 1, rfl⟩
/-- A reader that is opened. -/
theorem open_ok (w : World) (x : Value) (bs : List Int) (hx : Rd w x bs) (hl : bs.length ≤ 1000000000) :
    Calls Try.prog 45 #[x] w (Ret fun u w' => ∃ r B v, u = .pointer (some ⟨r, 0, none⟩) ∧ RAt w' r B v bs 0 ∧ Ext w w' ∧ w.heap.size ≤ r ∧ w.heap.size ≤ B ∧ B < w'.heap.size) := by
  refine calls_of_cfg c45_ok (Nat.le_of_ble_eq_true rfl) ?_
  simp only [argE_nil, argE_cons, Nat.reduceAdd, Nat.zero_add]
  (refine W_at c45_ok ?_; refine ⟨_, rfl, ?_⟩; simp (disch := first | omega | assumption | rfl | (simp only [vcS] <;> omega) | fail) only [↓ptV_l, ↓vcA, vcB, ↓vcD, vcE, ↓reduceIte, Nat.reduceEqDiff, Nat.reduceAdd, Nat.reduceMul, Nat.reduceLeDiff, Int.reduceLE, Int.reduceLT, Int.reduceEq, Int.reduceToNat, Int.reduceAdd, Int.reduceSub, Int.reduceMul, Int.reduceNeg, reduceCtorEq, Option.bind_some, Option.map_some, List.length_cons, List.length_nil, vcM, List.getElem?_toArray, List.getElem?_cons_zero, List.getElem?_cons_succ])
  (refine W_at c45_ok ?_; refine ⟨_, rfl, ?_⟩; simp (disch := first | omega | assumption | rfl | (simp only [vcS] <;> omega) | fail) only [↓ptV_l, ↓vcA, vcB, ↓vcD, vcE, ↓reduceIte, Nat.reduceEqDiff, Nat.reduceAdd, Nat.reduceMul, Nat.reduceLeDiff, Int.reduceLE, Int.reduceLT, Int.reduceEq, Int.reduceToNat, Int.reduceAdd, Int.reduceSub, Int.reduceMul, Int.reduceNeg, reduceCtorEq, Option.bind_some, Option.map_some, List.length_cons, List.length_nil, vcM, List.getElem?_toArray, List.getElem?_cons_zero, List.getElem?_cons_succ])
  refine callV_ret (clone_ok w x bs hx hl) ?_
  rintro v w1 ⟨h1, h2, h3⟩
  have ho := one_row h1
  have hcs : (Value.cells v).size = 1 := by
    obtain ⟨_, ⟨rfl, h0⟩ | ⟨g, cap, cur, rfl, _⟩⟩ := h1 <;> rfl
  have hcl : Value.cells v = #[v] := by
    obtain ⟨_, ⟨rfl, h0⟩ | ⟨g, cap, cur, rfl, _⟩⟩ := h1 <;> rfl
  have hz1 : zc [(1, Value.int .i64 0)] = #[.int .i64 0] := rfl
  simp (disch := first | omega | assumption | rfl | (simp only [vcS] <;> omega) | fail) only [↓ptV_l, ↓vcA, vcB, ↓vcD, vcE, ↓reduceIte, Nat.reduceEqDiff, Nat.reduceAdd, Nat.reduceMul, Nat.reduceLeDiff, Int.reduceLE, Int.reduceLT, Int.reduceEq, Int.reduceToNat, Int.reduceAdd, Int.reduceSub, Int.reduceMul, Int.reduceNeg, reduceCtorEq, Option.bind_some, Option.map_some, List.length_cons, List.length_nil, vcM, List.getElem?_toArray, List.getElem?_cons_zero, List.getElem?_cons_succ, hcl, hz1]
  have hr : (w1.alloc (Obj.cells #[v, Value.int IntKind.i64 0] 97)).heap[w1.heap.size]? = some (.cells #[v, .int .i64 0] 97 (0, 0)) := heap_new _ _ _ rfl
  have hE : Ext w1 (w1.alloc (Obj.cells #[v, Value.int IntKind.i64 0] 97)) := by (repeat' first | exact Keep.refl _ _ | assumption | refine Keep.drew ?_ | refine Keep.alloc ?_ _ | refine Keep.putN ?_ _ ?_ | refine Keep.setCell ?_ _ ?_ | refine Keep.setO ?_ _ ?_ | exact fun _ => Or.inl rfl | exact fun _ => Or.inr rfl | exact fun _ => rfl | (intro hh; exfalso; ((try simp only [vcS] at hh) <;> omega)))
  have hsz : (w1.alloc (Obj.cells #[v, Value.int IntKind.i64 0] 97)).heap.size = w1.heap.size + 1 := size_alloc _ _
  generalize World.alloc _ _ = w2 at hr hE hsz ⊢
  (refine W_at c45_ok ?_; refine ⟨_, rfl, ?_⟩; simp (disch := first | omega | assumption | rfl | (simp only [vcS] <;> omega) | fail) only [↓ptV_l, ↓vcA, vcB, ↓vcD, vcE, ↓reduceIte, Nat.reduceEqDiff, Nat.reduceAdd, Nat.reduceMul, Nat.reduceLeDiff, Int.reduceLE, Int.reduceLT, Int.reduceEq, Int.reduceToNat, Int.reduceAdd, Int.reduceSub, Int.reduceMul, Int.reduceNeg, reduceCtorEq, Option.bind_some, Option.map_some, List.length_cons, List.length_nil, vcM, List.getElem?_toArray, List.getElem?_cons_zero, List.getElem?_cons_succ, Ret_returned])
  have hws := h2.size
  cases hb : v.ownBlock with
  | none =>
    refine ⟨w1.heap.size, w1.heap.size, v, rfl, ⟨hr, (h1.ext hE).rd, fun q n c hq => ?_⟩, h2.ext hE, hws, hws, by omega⟩
    subst hq
    obtain ⟨_, ⟨h5, _⟩ | ⟨g, cap, cur, h5, _⟩⟩ := h1
    · cases h5
    · cases h5; cases hb
  | some g =>
    have hg1 := h1.lt hb
    refine ⟨w1.heap.size, g, v, rfl, ⟨hr, (h1.ext hE).rd, fun q n c hq => ?_⟩, h2.ext hE, hws, h3 g hb, by omega⟩
    subst hq
    obtain ⟨_, ⟨h5, _⟩ | ⟨g', cap, cur, h5, _⟩⟩ := h1
    · cases h5
    · cases h5; cases hb; exact ⟨rfl, by omega, by omega⟩

theorem err_ok (w : World) (r B : Nat) (v : Value) (bs : List Int) (e : Int) (h : RAt w r B v bs e) :
    Calls Try.prog 49 #[.pointer (some ⟨r, 0, none⟩)] w (Ret fun u w' => u = .int .i64 e ∧ w' = w) := by
  refine calls_of_cfg c49_ok (Nat.le_of_ble_eq_true rfl) ?_
  simp only [argE_nil, argE_cons, Nat.reduceAdd, Nat.zero_add]
  have hat := h.at'
  (refine W_at c49_ok ?_; refine ⟨_, rfl, ?_⟩; simp (disch := first | omega | assumption | rfl | (simp only [vcS] <;> omega) | fail) only [↓ptV_l, ↓vcA, vcB, ↓vcD, vcE, ↓reduceIte, Nat.reduceEqDiff, Nat.reduceAdd, Nat.reduceMul, Nat.reduceLeDiff, Int.reduceLE, Int.reduceLT, Int.reduceEq, Int.reduceToNat, Int.reduceAdd, Int.reduceSub, Int.reduceMul, Int.reduceNeg, reduceCtorEq, Option.bind_some, Option.map_some, List.length_cons, List.length_nil, vcM, List.getElem?_toArray, List.getElem?_cons_zero, List.getElem?_cons_succ])
  (refine W_at c49_ok ?_; refine ⟨_, rfl, ?_⟩; simp (disch := first | omega | assumption | rfl | (simp only [vcS] <;> omega) | fail) only [↓ptV_l, ↓vcA, vcB, ↓vcD, vcE, ↓reduceIte, Nat.reduceEqDiff, Nat.reduceAdd, Nat.reduceMul, Nat.reduceLeDiff, Int.reduceLE, Int.reduceLT, Int.reduceEq, Int.reduceToNat, Int.reduceAdd, Int.reduceSub, Int.reduceMul, Int.reduceNeg, reduceCtorEq, Option.bind_some, Option.map_some, List.length_cons, List.length_nil, vcM, List.getElem?_toArray, List.getElem?_cons_zero, List.getElem?_cons_succ, hat])
  (refine W_at c49_ok ?_; refine ⟨_, rfl, ?_⟩; simp (disch := first | omega | assumption | rfl | (simp only [vcS] <;> omega) | fail) only [↓ptV_l, ↓vcA, vcB, ↓vcD, vcE, ↓reduceIte, Nat.reduceEqDiff, Nat.reduceAdd, Nat.reduceMul, Nat.reduceLeDiff, Int.reduceLE, Int.reduceLT, Int.reduceEq, Int.reduceToNat, Int.reduceAdd, Int.reduceSub, Int.reduceMul, Int.reduceNeg, reduceCtorEq, Option.bind_some, Option.map_some, List.length_cons, List.length_nil, vcM, List.getElem?_toArray, List.getElem?_cons_zero, List.getElem?_cons_succ, Ret_returned])
end Go.Proofs
