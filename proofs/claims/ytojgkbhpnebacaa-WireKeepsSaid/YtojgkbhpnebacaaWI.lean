/- The law's 'read': the program's reader and the document's side by side. -/
import Derived.Test.YtojgkbhpnebacaaWH
set_option linter.unusedSimpArgs false
set_option linter.unusedVariables false
set_option linter.constructorNameAsVariable false
namespace Go.Proofs
open Go.Vc
set_option maxRecDepth 10000

def nR (n : Int) : Int := if 9223372036854775808 < n then -(n % 4096) else n % 4096
theorem nR_r {n : Int} (h : 0 ≤ n) : -4096 ≤ nR n ∧ nR n ≤ 4096 := by unfold nR; split <;> omega
def restR {α : Type} : Except Int (α × List Int) → Except Int (List Int)
  | .ok (_, rest) => .ok rest
  | .error k => .error k
def actR (kind n : Int) (l : List Int) : Except Int (List Int) :=
  if kind = 1 then restR (numR 1 l) else if kind = 2 then restR (numR 2 l) else if kind = 3 then restR (numR 4 l) else if kind = 4 then restR (numR 8 l)
  else if kind = 5 then restR (szR l) else if kind = 6 then restR (rawR (nR n) l) else restR (bytR (nR n) l)
structure RdTo (w w' : World) (r B : Nat) (x : Value) (bs : List Int) (a : Nat) (e : Int) (res : Except Int (List Int)) (u : Value) : Prop where
  keep : Keep (fun i => i = r) w w'
  is : ∃ a' e' v', u = .tuple #[.agg #[x, .int .i64 (a' : Nat), .int .i64 e'], .bool true] ∧ a' ≤ bs.length ∧ RAt w' r B v' (bs.drop a') e' ∧ (e ≠ 0 → a' = a ∧ e' = e) ∧ (e = 0 → ∀ rest, res = .ok rest → bs.drop a' = rest ∧ e' = 0) ∧ (e = 0 → ∀ k, res = .error k → a' = a ∧ e' = k)
theorem both {α : Type} {w1 wx w2 : World} {r B : Nat} {v val u z z' : Value} {bs : List Int} {a a' : Nat} {e e' : Int} {res : Except Int (α × List Int)} {φ ψ : α → Value → World → Prop}
    (g1 : e ≠ 0 → val = z ∧ a' = a ∧ e' = e) (g2 : e = 0 → ∀ y rest, res = .ok (y, rest) → φ y val w1 ∧ bs.drop a' = rest ∧ e' = 0) (g3 : e = 0 → ∀ k, res = .error k → val = z ∧ a' = a ∧ e' = k)
    (hR : RTo wx w2 r B v (bs.drop a) e res ψ z' u) :
    (∃ v', RAt w2 r B v' (bs.drop a') e') ∧ ((val = z ∧ u = z') ∨ ∃ y rest, res = .ok (y, rest) ∧ φ y val w1 ∧ ψ y u w2) := by
  by_cases he : e = 0
  · subst he
    cases res with
    | ok p =>
      obtain ⟨y, rest⟩ := p
      obtain ⟨i1, i2, i3⟩ := g2 rfl y rest rfl
      obtain ⟨j1, v', j2⟩ := hR.ok rfl y rest rfl
      exact ⟨⟨v', by rw [i2, i3]; exact j2⟩, .inr ⟨y, rest, rfl, i1, j1⟩⟩
    | error k =>
      obtain ⟨i1, i2, i3⟩ := g3 rfl k rfl
      obtain ⟨j1, j2⟩ := hR.er rfl k rfl
      exact ⟨⟨v, by rw [i2, i3]; exact j2⟩, .inl ⟨i1, j1⟩⟩
  · obtain ⟨i1, i2, i3⟩ := g1 he
    obtain ⟨j1, j2⟩ := hR.was he
    exact ⟨⟨v, by rw [i2, i3]; exact j2⟩, .inl ⟨i1, j1⟩⟩
theorem RdTo.mk' {α : Type} {w w1 w' : World} {r B : Nat} {x val z v' : Value} {bs : List Int} {a a' : Nat} {e e' : Int} {res : Except Int (α × List Int)} {φ : α → Value → World → Prop} (hk : Keep (fun i => i = r) w w') (ha : a' ≤ bs.length) (hr : RAt w' r B v' (bs.drop a') e')
    (g1 : e ≠ 0 → val = z ∧ a' = a ∧ e' = e) (g2 : e = 0 → ∀ y rest, res = .ok (y, rest) → φ y val w1 ∧ bs.drop a' = rest ∧ e' = 0) (g3 : e = 0 → ∀ k, res = .error k → val = z ∧ a' = a ∧ e' = k) :
    RdTo w w' r B x bs a e (restR res) (.tuple #[.agg #[x, .int .i64 (a' : Nat), .int .i64 e'], .bool true]) := by
  refine ⟨hk, a', e', v', rfl, ha, hr, fun h => (g1 h).2, fun h rest hr' => ?_, fun h k hr' => ?_⟩
  · cases res with
    | ok p => cases hr'; exact (g2 h _ _ rfl).2
    | error k => cases hr'
  · cases res with
    | ok p => cases hr'
    | error k => cases hr'; exact (g3 h _ rfl).2
theorem u64_num {k : Nat} {bs : List Int} {a : Nat} {y : Int} {rest : List Int} (hb : byt bs) (hk : k ≤ 8) (h : numR k (bs.drop a) = .ok (y, rest)) : IntKind.u64.wrap y = y := by
  unfold numR at h
  split at h
  · cases h
    have hbt : byt ((bs.drop a).take k) := byt_take (byt_drop hb a) k
    have hv := valF_lt hbt
    have hp : (256 : Int) ^ ((bs.drop a).take k).length ≤ 256 ^ 8 := pow256_le (by rw [List.length_take]; omega)
    have h256 : (256 : Int) ^ 8 = 18446744073709551616 := rfl
    rw [wrap_u64]; omega
  · cases h
theorem u64_sz {bs : List Int} {a : Nat} {y : Int} {rest : List Int} (hb : byt bs) (h : szR (bs.drop a) = .ok (y, rest)) : IntKind.u64.wrap y = y := by
  have := szR_num (byt_drop hb a) h
  rw [wrap_u64]; omega
theorem rawR_byt {n : Int} {l y rest : List Int} (hb : byt l) (h : rawR n l = .ok (y, rest)) : byt y := by
  unfold rawR at h
  split at h
  · cases h; exact byt_take hb _
  · cases h
theorem bytR_byt {n : Int} {l y rest : List Int} (hb : byt l) (h : bytR n l = .ok (y, rest)) : byt y := by
  unfold bytR at h
  cases hs : szR l with
  | error k => rw [hs] at h; cases h
  | ok p =>
    obtain ⟨m, t⟩ := p
    rw [hs] at h
    simp only at h
    split at h
    · cases h
    · obtain ⟨_, _, k, rfl⟩ := szR_num hb hs
      exact rawR_byt (byt_drop hb k) h

set_option maxHeartbeats 4000000 in
theorem read_ok (w : World) (r B : Nat) (v x : Value) (bs : List Int) (a : Nat) (e : Int) (c : Array Value) (kind n : Int) (b : List Int) (hx : Rd w x bs) (hb : byt bs) (ha : a ≤ bs.length) (hl : bs.length ≤ 1000000)
    (hr : RAt w r B v (bs.drop a) e) (hB : B < w.heap.size) (hc : ∃ y, c = #[.int .i64 kind, .int .u64 n, y] ∧ y.oneCell' = true) (hn : 0 ≤ n ∧ n < 18446744073709551616) :
    Calls Try.prog 23 #[.pointer (some ⟨r, 0, none⟩), .agg #[x, .int .i64 a, .int .i64 e], .agg c] w (Ret fun u w' => RdTo w w' r B x bs a e (actR kind n (bs.drop a)) u) := by
  obtain ⟨yb, rfl, hyb⟩ := hc
  refine calls_of_cfg c23_ok (Nat.le_of_ble_eq_true rfl) ?_
  simp only [argE_nil, argE_cons, Nat.reduceAdd, Nat.zero_add]
  have hx1 := hx.one
  have hz1 : zc [(1, Value.slice none 0 0), (2, .int .i64 0)] = #[.slice none 0 0, .int .i64 0, .int .i64 0] := rfl
  (refine W_at c23_ok ?_; refine ⟨_, rfl, ?_⟩; simp (disch := first | omega | assumption | rfl | (simp only [vcS] <;> omega) | fail) only [↓ptV_l, ↓vcA, vcB, ↓vcD, vcE, ↓reduceIte, Nat.reduceEqDiff, Nat.reduceAdd, Nat.reduceMul, Nat.reduceLeDiff, Int.reduceLE, Int.reduceLT, Int.reduceEq, Int.reduceToNat, Int.reduceAdd, Int.reduceSub, Int.reduceMul, Int.reduceNeg, reduceCtorEq, Option.bind_some, Option.map_some, List.length_cons, List.length_nil, vcM, List.getElem?_toArray, List.getElem?_cons_zero, List.getElem?_cons_succ, hz1])
  have h4 : (((w.alloc (Obj.cells #[x, Value.int IntKind.i64 ↑a, Value.int IntKind.i64 e] 49)).alloc (Obj.cells #[.int .i64 kind, .int .u64 n, yb] 31)).alloc (Obj.cells #[.slice none 0 0, .int .i64 0, .int .i64 0] 49)).heap[w.heap.size]? = some (.cells #[x, .int .i64 a, .int .i64 e] 49 (0, 0)) := by simp (disch := first | omega | assumption | rfl | (simp only [vcS] <;> omega) | fail) only [↓ptV_l, ↓vcA, vcB, ↓vcD, vcE, ↓reduceIte, Nat.reduceEqDiff, Nat.reduceAdd, Nat.reduceMul, Nat.reduceLeDiff, Int.reduceLE, Int.reduceLT, Int.reduceEq, Int.reduceToNat, Int.reduceAdd, Int.reduceSub, Int.reduceMul, Int.reduceNeg, reduceCtorEq, Option.bind_some, Option.map_some, List.length_cons, List.length_nil, vcM, List.getElem?_toArray, List.getElem?_cons_zero, List.getElem?_cons_succ]
  have h5 : (((w.alloc (Obj.cells #[x, Value.int IntKind.i64 ↑a, Value.int IntKind.i64 e] 49)).alloc (Obj.cells #[.int .i64 kind, .int .u64 n, yb] 31)).alloc (Obj.cells #[.slice none 0 0, .int .i64 0, .int .i64 0] 49)).heap[w.heap.size + 1]? = some (.cells #[.int .i64 kind, .int .u64 n, yb] 31 (0, 0)) := by simp (disch := first | omega | assumption | rfl | (simp only [vcS] <;> omega) | fail) only [↓ptV_l, ↓vcA, vcB, ↓vcD, vcE, ↓reduceIte, Nat.reduceEqDiff, Nat.reduceAdd, Nat.reduceMul, Nat.reduceLeDiff, Int.reduceLE, Int.reduceLT, Int.reduceEq, Int.reduceToNat, Int.reduceAdd, Int.reduceSub, Int.reduceMul, Int.reduceNeg, reduceCtorEq, Option.bind_some, Option.map_some, List.length_cons, List.length_nil, vcM, List.getElem?_toArray, List.getElem?_cons_zero, List.getElem?_cons_succ]
  have h6 : (((w.alloc (Obj.cells #[x, Value.int IntKind.i64 ↑a, Value.int IntKind.i64 e] 49)).alloc (Obj.cells #[.int .i64 kind, .int .u64 n, yb] 31)).alloc (Obj.cells #[.slice none 0 0, .int .i64 0, .int .i64 0] 49)).heap[w.heap.size + 1 + 1]? = some (.cells #[.slice none 0 0, .int .i64 0, .int .i64 0] 49 (0, 0)) := by simp (disch := first | omega | assumption | rfl | (simp only [vcS] <;> omega) | fail) only [↓ptV_l, ↓vcA, vcB, ↓vcD, vcE, ↓reduceIte, Nat.reduceEqDiff, Nat.reduceAdd, Nat.reduceMul, Nat.reduceLeDiff, Int.reduceLE, Int.reduceLT, Int.reduceEq, Int.reduceToNat, Int.reduceAdd, Int.reduceSub, Int.reduceMul, Int.reduceNeg, reduceCtorEq, Option.bind_some, Option.map_some, List.length_cons, List.length_nil, vcM, List.getElem?_toArray, List.getElem?_cons_zero, List.getElem?_cons_succ]
  have hE : Ext w (((w.alloc (Obj.cells #[x, Value.int IntKind.i64 ↑a, Value.int IntKind.i64 e] 49)).alloc (Obj.cells #[.int .i64 kind, .int .u64 n, yb] 31)).alloc (Obj.cells #[.slice none 0 0, .int .i64 0, .int .i64 0] 49)) := by (repeat' first | exact Keep.refl _ _ | assumption | refine Keep.drew ?_ | refine Keep.alloc ?_ _ | refine Keep.putN ?_ _ ?_ | refine Keep.setCell ?_ _ ?_ | refine Keep.setO ?_ _ ?_ | exact fun _ => Or.inl rfl | exact fun _ => Or.inr rfl | exact fun _ => rfl | (intro hh; exfalso; ((try simp only [vcS] at hh) <;> omega)))
  have hrlt := hr.lt
  have hp6 : w.heap.size ≤ w.heap.size + 1 + 1 := by omega
  have hp6r : w.heap.size + 1 + 1 ≠ r := by omega
  have hp6B : w.heap.size + 1 + 1 ≠ B := by omega
  generalize w.heap.size + 1 + 1 = p6 at h6 hp6 hp6r hp6B ⊢
  generalize w.heap.size + 1 = p5 at h5 ⊢
  generalize hp4 : w.heap.size = p4 at h4 hp6 hrlt ⊢
  generalize World.alloc _ _ = w0 at h4 h5 h6 hE ⊢
  have hput : ∀ (wz : World) (c0 c1 c2 : Value), wz.heap[p6]? = some (.cells #[.slice none 0 0, .int .i64 0, .int .i64 0] 49 (0, 0)) → rdO (wz.putN p6 0 #[c0, c1, c2]).heap[p6]? 0 3 = some #[c0, c1, c2] := fun wz c0 c1 c2 h => rdO_put (w := wz) h rfl rfl
  have hrem : IntKind.i64.wrap (n.tmod 4096) = n % 4096 := by rw [Int.tmod_eq_emod_of_nonneg hn.1]; exact wrap_i64 (by omega) (by omega)
  have hcv : IntKind.i64.wrap (n % 4096) = n % 4096 := wrap_i64 (by omega) (by omega)
  have hng : IntKind.i64.wrap (0 - n % 4096) = -(n % 4096) := by rw [wrap_i64 (by omega) (by omega)]; omega
  have hn4 : (4096 : Int) ≠ 0 := by decide
  have hnr := nR_r hn.1
  have hkey : ∀ (s : Env), W Try.prog (Ret fun u w' => RdTo w w' r B x bs a e (actR kind n (bs.drop a)) u) 23 34 ((0, .pointer (some ⟨r, 0, none⟩)) :: (4, .pointer (some ⟨p4, 0, none⟩)) :: (5, .pointer (some ⟨p5, 0, none⟩)) :: (6, .pointer (some ⟨p6, 0, none⟩)) :: (8, .int .i64 (nR n)) :: s) w0 := by
    intro s
    generalize hnn : nR n = nn at hnr ⊢
    (refine W_at c23_ok ?_; refine ⟨_, rfl, ?_⟩; simp (disch := first | omega | assumption | rfl | (simp only [vcS] <;> omega) | fail) only [↓ptV_l, ↓vcA, vcB, ↓vcD, vcE, ↓reduceIte, Nat.reduceEqDiff, Nat.reduceAdd, Nat.reduceMul, Nat.reduceLeDiff, Int.reduceLE, Int.reduceLT, Int.reduceEq, Int.reduceToNat, Int.reduceAdd, Int.reduceSub, Int.reduceMul, Int.reduceNeg, reduceCtorEq, Option.bind_some, Option.map_some, List.length_cons, List.length_nil, vcM, List.getElem?_toArray, List.getElem?_cons_zero, List.getElem?_cons_succ, h5])
    by_cases k1 : kind = 1
    · subst k1
      (refine W_at c23_ok ?_; refine ⟨_, rfl, ?_⟩; simp (disch := first | omega | assumption | rfl | (simp only [vcS] <;> omega) | fail) only [↓ptV_l, ↓vcA, vcB, ↓vcD, vcE, ↓reduceIte, Nat.reduceEqDiff, Nat.reduceAdd, Nat.reduceMul, Nat.reduceLeDiff, Int.reduceLE, Int.reduceLT, Int.reduceEq, Int.reduceToNat, Int.reduceAdd, Int.reduceSub, Int.reduceMul, Int.reduceNeg, reduceCtorEq, Option.bind_some, Option.map_some, List.length_cons, List.length_nil, vcM, List.getElem?_toArray, List.getElem?_cons_zero, List.getElem?_cons_succ])
      (refine W_at c23_ok ?_; refine ⟨_, rfl, ?_⟩; simp (disch := first | omega | assumption | rfl | (simp only [vcS] <;> omega) | fail) only [↓ptV_l, ↓vcA, vcB, ↓vcD, vcE, ↓reduceIte, Nat.reduceEqDiff, Nat.reduceAdd, Nat.reduceMul, Nat.reduceLeDiff, Int.reduceLE, Int.reduceLT, Int.reduceEq, Int.reduceToNat, Int.reduceAdd, Int.reduceSub, Int.reduceMul, Int.reduceNeg, reduceCtorEq, Option.bind_some, Option.map_some, List.length_cons, List.length_nil, vcM, List.getElem?_toArray, List.getElem?_cons_zero, List.getElem?_cons_succ])
      rw [actR, if_pos rfl]
      (refine W_at c23_ok ?_; refine ⟨_, rfl, ?_⟩; simp (disch := first | omega | assumption | rfl | (simp only [vcS] <;> omega) | fail) only [↓ptV_l, ↓vcA, vcB, ↓vcD, vcE, ↓reduceIte, Nat.reduceEqDiff, Nat.reduceAdd, Nat.reduceMul, Nat.reduceLeDiff, Int.reduceLE, Int.reduceLT, Int.reduceEq, Int.reduceToNat, Int.reduceAdd, Int.reduceSub, Int.reduceMul, Int.reduceNeg, reduceCtorEq, Option.bind_some, Option.map_some, List.length_cons, List.length_nil, vcM, List.getElem?_toArray, List.getElem?_cons_zero, List.getElem?_cons_succ, h4, rdO3])
      refine callV_ret (iNum_ok w0 x bs a e 1 (hx.ext hE) hb ha (by omega) (by omega)) ?_
      rintro u w1 ⟨hE1, val, a', e', rfl, hab, g1, g2, g3⟩
      simp (disch := first | omega | assumption | rfl | (simp only [vcS] <;> omega) | fail) only [↓ptV_l, ↓vcA, vcB, ↓vcD, vcE, ↓reduceIte, Nat.reduceEqDiff, Nat.reduceAdd, Nat.reduceMul, Nat.reduceLeDiff, Int.reduceLE, Int.reduceLT, Int.reduceEq, Int.reduceToNat, Int.reduceAdd, Int.reduceSub, Int.reduceMul, Int.reduceNeg, reduceCtorEq, Option.bind_some, Option.map_some, List.length_cons, List.length_nil, vcM, List.getElem?_toArray, List.getElem?_cons_zero, List.getElem?_cons_succ, hz1, hx1]
      have h7 : ((w1.alloc (Obj.cells #[.slice none 0 0, .int .i64 0, .int .i64 0] 49)).putN w1.heap.size 0 #[x, .int .i64 a', .int .i64 e']).heap[w1.heap.size]? = some (.cells #[x, .int .i64 a', .int .i64 e'] 49 (0, 0)) := heap_local w1 rfl
      have hE2 : Ext w1 ((w1.alloc (Obj.cells #[.slice none 0 0, .int .i64 0, .int .i64 0] 49)).putN w1.heap.size 0 #[x, .int .i64 a', .int .i64 e']) := by (repeat' first | exact Keep.refl _ _ | assumption | refine Keep.drew ?_ | refine Keep.alloc ?_ _ | refine Keep.putN ?_ _ ?_ | refine Keep.setCell ?_ _ ?_ | refine Keep.setO ?_ _ ?_ | exact fun _ => Or.inl rfl | exact fun _ => Or.inr rfl | exact fun _ => rfl | (intro hh; exfalso; ((try simp only [vcS] at hh) <;> omega)))
      have h6c := hE2.at (hE1.at h6 fun h => h) fun h => h
      have hs1 := hE1.size
      have hs0 := hE.size
      have hp7 : w1.heap.size ≠ r := by omega
      generalize World.putN _ _ _ _ = w2 at h7 hE2 h6c ⊢
      generalize w1.heap.size = p7 at h7 hp7 ⊢
      have hW2 : Ext w w2 := hE.ext (hE1.ext hE2)
      have hBd : B < w2.drew.heap.size := Nat.lt_of_lt_of_le hB hW2.size
      (refine W_at c23_ok ?_; refine ⟨_, rfl, ?_⟩; simp (disch := first | omega | assumption | rfl | (simp only [vcS] <;> omega) | fail) only [↓ptV_l, ↓vcA, vcB, ↓vcD, vcE, ↓reduceIte, Nat.reduceEqDiff, Nat.reduceAdd, Nat.reduceMul, Nat.reduceLeDiff, Int.reduceLE, Int.reduceLT, Int.reduceEq, Int.reduceToNat, Int.reduceAdd, Int.reduceSub, Int.reduceMul, Int.reduceNeg, reduceCtorEq, Option.bind_some, Option.map_some, List.length_cons, List.length_nil, vcM, List.getElem?_toArray, List.getElem?_cons_zero, List.getElem?_cons_succ, h7, rdO3])
      refine callV_ret (ru8_ok w2.drew r B v (bs.drop a) e (hr.ext hW2.drew) hBd (byt_drop hb a)) ?_
      intro u w3 hT
      have h6d := hT.keep.at h6c hp6r
      have h7d := hT.keep.at h7 hp7
      obtain ⟨⟨v', hv'⟩, hor⟩ := both (w1 := w1) (φ := fun y v _ => v = .int .u64 y) g1 g2 g3 hT
      have hvals : ∃ y : Int, val = .int .u64 y ∧ u = .int .u8 y ∧ IntKind.u64.wrap y = y := by
        rcases hor with ⟨h1, h2⟩ | ⟨y, rest, h3, h1, h2⟩
        · exact ⟨0, h1, h2, rfl⟩
        · exact ⟨y, h1, h2, u64_num hb (by omega) h3⟩
      obtain ⟨y, rfl, rfl, hyw⟩ := hvals
      refine ⟨by rw [h7d, rdO3]; rfl, ?_⟩
      simp (disch := first | omega | assumption | rfl | (simp only [vcS] <;> omega) | fail) only [↓ptV_l, ↓vcA, vcB, ↓vcD, vcE, ↓reduceIte, Nat.reduceEqDiff, Nat.reduceAdd, Nat.reduceMul, Nat.reduceLeDiff, Int.reduceLE, Int.reduceLT, Int.reduceEq, Int.reduceToNat, Int.reduceAdd, Int.reduceSub, Int.reduceMul, Int.reduceNeg, reduceCtorEq, Option.bind_some, Option.map_some, List.length_cons, List.length_nil, vcM, List.getElem?_toArray, List.getElem?_cons_zero, List.getElem?_cons_succ, h6d, hyw, hx1]
      have hput' := hput w3 x (.int .i64 a') (.int .i64 e') h6d
      (refine W_at c23_ok ?_; refine ⟨_, rfl, ?_⟩; simp (disch := first | omega | assumption | rfl | (simp only [vcS] <;> omega) | fail) only [↓ptV_l, ↓vcA, vcB, ↓vcD, vcE, ↓reduceIte, Nat.reduceEqDiff, Nat.reduceAdd, Nat.reduceMul, Nat.reduceLeDiff, Int.reduceLE, Int.reduceLT, Int.reduceEq, Int.reduceToNat, Int.reduceAdd, Int.reduceSub, Int.reduceMul, Int.reduceNeg, reduceCtorEq, Option.bind_some, Option.map_some, List.length_cons, List.length_nil, vcM, List.getElem?_toArray, List.getElem?_cons_zero, List.getElem?_cons_succ, hput', Ret_returned])
      refine RdTo.mk' (w1 := w1) (φ := fun y v _ => v = .int .u64 y) ((((hW2.mono fun _ h => h.elim).drew).trans hT.keep fun _ _ h => h).putN _ (by omega)) hab.2 (hv'.keep ((Keep.refl _ w3).putN (S := fun i => i = p6) _ fun _ => rfl) (by omega) (by omega)) g1 g2 g3
    by_cases k2 : kind = 2
    · subst k2
      (refine W_at c23_ok ?_; refine ⟨_, rfl, ?_⟩; simp (disch := first | omega | assumption | rfl | (simp only [vcS] <;> omega) | fail) only [↓ptV_l, ↓vcA, vcB, ↓vcD, vcE, ↓reduceIte, Nat.reduceEqDiff, Nat.reduceAdd, Nat.reduceMul, Nat.reduceLeDiff, Int.reduceLE, Int.reduceLT, Int.reduceEq, Int.reduceToNat, Int.reduceAdd, Int.reduceSub, Int.reduceMul, Int.reduceNeg, reduceCtorEq, Option.bind_some, Option.map_some, List.length_cons, List.length_nil, vcM, List.getElem?_toArray, List.getElem?_cons_zero, List.getElem?_cons_succ])
      (refine W_at c23_ok ?_; refine ⟨_, rfl, ?_⟩; simp (disch := first | omega | assumption | rfl | (simp only [vcS] <;> omega) | fail) only [↓ptV_l, ↓vcA, vcB, ↓vcD, vcE, ↓reduceIte, Nat.reduceEqDiff, Nat.reduceAdd, Nat.reduceMul, Nat.reduceLeDiff, Int.reduceLE, Int.reduceLT, Int.reduceEq, Int.reduceToNat, Int.reduceAdd, Int.reduceSub, Int.reduceMul, Int.reduceNeg, reduceCtorEq, Option.bind_some, Option.map_some, List.length_cons, List.length_nil, vcM, List.getElem?_toArray, List.getElem?_cons_zero, List.getElem?_cons_succ])
      (refine W_at c23_ok ?_; refine ⟨_, rfl, ?_⟩; simp (disch := first | omega | assumption | rfl | (simp only [vcS] <;> omega) | fail) only [↓ptV_l, ↓vcA, vcB, ↓vcD, vcE, ↓reduceIte, Nat.reduceEqDiff, Nat.reduceAdd, Nat.reduceMul, Nat.reduceLeDiff, Int.reduceLE, Int.reduceLT, Int.reduceEq, Int.reduceToNat, Int.reduceAdd, Int.reduceSub, Int.reduceMul, Int.reduceNeg, reduceCtorEq, Option.bind_some, Option.map_some, List.length_cons, List.length_nil, vcM, List.getElem?_toArray, List.getElem?_cons_zero, List.getElem?_cons_succ])
      (refine W_at c23_ok ?_; refine ⟨_, rfl, ?_⟩; simp (disch := first | omega | assumption | rfl | (simp only [vcS] <;> omega) | fail) only [↓ptV_l, ↓vcA, vcB, ↓vcD, vcE, ↓reduceIte, Nat.reduceEqDiff, Nat.reduceAdd, Nat.reduceMul, Nat.reduceLeDiff, Int.reduceLE, Int.reduceLT, Int.reduceEq, Int.reduceToNat, Int.reduceAdd, Int.reduceSub, Int.reduceMul, Int.reduceNeg, reduceCtorEq, Option.bind_some, Option.map_some, List.length_cons, List.length_nil, vcM, List.getElem?_toArray, List.getElem?_cons_zero, List.getElem?_cons_succ])
      rw [actR, if_neg (by decide), if_pos rfl]
      (refine W_at c23_ok ?_; refine ⟨_, rfl, ?_⟩; simp (disch := first | omega | assumption | rfl | (simp only [vcS] <;> omega) | fail) only [↓ptV_l, ↓vcA, vcB, ↓vcD, vcE, ↓reduceIte, Nat.reduceEqDiff, Nat.reduceAdd, Nat.reduceMul, Nat.reduceLeDiff, Int.reduceLE, Int.reduceLT, Int.reduceEq, Int.reduceToNat, Int.reduceAdd, Int.reduceSub, Int.reduceMul, Int.reduceNeg, reduceCtorEq, Option.bind_some, Option.map_some, List.length_cons, List.length_nil, vcM, List.getElem?_toArray, List.getElem?_cons_zero, List.getElem?_cons_succ, h4, rdO3])
      refine callV_ret (iNum_ok w0 x bs a e 2 (hx.ext hE) hb ha (by omega) (by omega)) ?_
      rintro u w1 ⟨hE1, val, a', e', rfl, hab, g1, g2, g3⟩
      simp (disch := first | omega | assumption | rfl | (simp only [vcS] <;> omega) | fail) only [↓ptV_l, ↓vcA, vcB, ↓vcD, vcE, ↓reduceIte, Nat.reduceEqDiff, Nat.reduceAdd, Nat.reduceMul, Nat.reduceLeDiff, Int.reduceLE, Int.reduceLT, Int.reduceEq, Int.reduceToNat, Int.reduceAdd, Int.reduceSub, Int.reduceMul, Int.reduceNeg, reduceCtorEq, Option.bind_some, Option.map_some, List.length_cons, List.length_nil, vcM, List.getElem?_toArray, List.getElem?_cons_zero, List.getElem?_cons_succ, hz1, hx1]
      have h7 : ((w1.alloc (Obj.cells #[.slice none 0 0, .int .i64 0, .int .i64 0] 49)).putN w1.heap.size 0 #[x, .int .i64 a', .int .i64 e']).heap[w1.heap.size]? = some (.cells #[x, .int .i64 a', .int .i64 e'] 49 (0, 0)) := heap_local w1 rfl
      have hE2 : Ext w1 ((w1.alloc (Obj.cells #[.slice none 0 0, .int .i64 0, .int .i64 0] 49)).putN w1.heap.size 0 #[x, .int .i64 a', .int .i64 e']) := by (repeat' first | exact Keep.refl _ _ | assumption | refine Keep.drew ?_ | refine Keep.alloc ?_ _ | refine Keep.putN ?_ _ ?_ | refine Keep.setCell ?_ _ ?_ | refine Keep.setO ?_ _ ?_ | exact fun _ => Or.inl rfl | exact fun _ => Or.inr rfl | exact fun _ => rfl | (intro hh; exfalso; ((try simp only [vcS] at hh) <;> omega)))
      have h6c := hE2.at (hE1.at h6 fun h => h) fun h => h
      have hs1 := hE1.size
      have hs0 := hE.size
      have hp7 : w1.heap.size ≠ r := by omega
      generalize World.putN _ _ _ _ = w2 at h7 hE2 h6c ⊢
      generalize w1.heap.size = p7 at h7 hp7 ⊢
      have hW2 : Ext w w2 := hE.ext (hE1.ext hE2)
      have hBd : B < w2.drew.heap.size := Nat.lt_of_lt_of_le hB hW2.size
      (refine W_at c23_ok ?_; refine ⟨_, rfl, ?_⟩; simp (disch := first | omega | assumption | rfl | (simp only [vcS] <;> omega) | fail) only [↓ptV_l, ↓vcA, vcB, ↓vcD, vcE, ↓reduceIte, Nat.reduceEqDiff, Nat.reduceAdd, Nat.reduceMul, Nat.reduceLeDiff, Int.reduceLE, Int.reduceLT, Int.reduceEq, Int.reduceToNat, Int.reduceAdd, Int.reduceSub, Int.reduceMul, Int.reduceNeg, reduceCtorEq, Option.bind_some, Option.map_some, List.length_cons, List.length_nil, vcM, List.getElem?_toArray, List.getElem?_cons_zero, List.getElem?_cons_succ, h7, rdO3])
      refine callV_ret (ru16_ok w2.drew r B v (bs.drop a) e (hr.ext hW2.drew) hBd (byt_drop hb a)) ?_
      intro u w3 hT
      have h6d := hT.keep.at h6c hp6r
      have h7d := hT.keep.at h7 hp7
      obtain ⟨⟨v', hv'⟩, hor⟩ := both (w1 := w1) (φ := fun y v _ => v = .int .u64 y) g1 g2 g3 hT
      have hvals : ∃ y : Int, val = .int .u64 y ∧ u = .int .u16 y ∧ IntKind.u64.wrap y = y := by
        rcases hor with ⟨h1, h2⟩ | ⟨y, rest, h3, h1, h2⟩
        · exact ⟨0, h1, h2, rfl⟩
        · exact ⟨y, h1, h2, u64_num hb (by omega) h3⟩
      obtain ⟨y, rfl, rfl, hyw⟩ := hvals
      refine ⟨by rw [h7d, rdO3]; rfl, ?_⟩
      simp (disch := first | omega | assumption | rfl | (simp only [vcS] <;> omega) | fail) only [↓ptV_l, ↓vcA, vcB, ↓vcD, vcE, ↓reduceIte, Nat.reduceEqDiff, Nat.reduceAdd, Nat.reduceMul, Nat.reduceLeDiff, Int.reduceLE, Int.reduceLT, Int.reduceEq, Int.reduceToNat, Int.reduceAdd, Int.reduceSub, Int.reduceMul, Int.reduceNeg, reduceCtorEq, Option.bind_some, Option.map_some, List.length_cons, List.length_nil, vcM, List.getElem?_toArray, List.getElem?_cons_zero, List.getElem?_cons_succ, h6d, hyw, hx1]
      have hput' := hput w3 x (.int .i64 a') (.int .i64 e') h6d
      (refine W_at c23_ok ?_; refine ⟨_, rfl, ?_⟩; simp (disch := first | omega | assumption | rfl | (simp only [vcS] <;> omega) | fail) only [↓ptV_l, ↓vcA, vcB, ↓vcD, vcE, ↓reduceIte, Nat.reduceEqDiff, Nat.reduceAdd, Nat.reduceMul, Nat.reduceLeDiff, Int.reduceLE, Int.reduceLT, Int.reduceEq, Int.reduceToNat, Int.reduceAdd, Int.reduceSub, Int.reduceMul, Int.reduceNeg, reduceCtorEq, Option.bind_some, Option.map_some, List.length_cons, List.length_nil, vcM, List.getElem?_toArray, List.getElem?_cons_zero, List.getElem?_cons_succ, hput', Ret_returned])
      refine RdTo.mk' (w1 := w1) (φ := fun y v _ => v = .int .u64 y) ((((hW2.mono fun _ h => h.elim).drew).trans hT.keep fun _ _ h => h).putN _ (by omega)) hab.2 (hv'.keep ((Keep.refl _ w3).putN (S := fun i => i = p6) _ fun _ => rfl) (by omega) (by omega)) g1 g2 g3
    by_cases k3 : kind = 3
    · subst k3
      (refine W_at c23_ok ?_; refine ⟨_, rfl, ?_⟩; simp (disch := first | omega | assumption | rfl | (simp only [vcS] <;> omega) | fail) only [↓ptV_l, ↓vcA, vcB, ↓vcD, vcE, ↓reduceIte, Nat.reduceEqDiff, Nat.reduceAdd, Nat.reduceMul, Nat.reduceLeDiff, Int.reduceLE, Int.reduceLT, Int.reduceEq, Int.reduceToNat, Int.reduceAdd, Int.reduceSub, Int.reduceMul, Int.reduceNeg, reduceCtorEq, Option.bind_some, Option.map_some, List.length_cons, List.length_nil, vcM, List.getElem?_toArray, List.getElem?_cons_zero, List.getElem?_cons_succ])
      (refine W_at c23_ok ?_; refine ⟨_, rfl, ?_⟩; simp (disch := first | omega | assumption | rfl | (simp only [vcS] <;> omega) | fail) only [↓ptV_l, ↓vcA, vcB, ↓vcD, vcE, ↓reduceIte, Nat.reduceEqDiff, Nat.reduceAdd, Nat.reduceMul, Nat.reduceLeDiff, Int.reduceLE, Int.reduceLT, Int.reduceEq, Int.reduceToNat, Int.reduceAdd, Int.reduceSub, Int.reduceMul, Int.reduceNeg, reduceCtorEq, Option.bind_some, Option.map_some, List.length_cons, List.length_nil, vcM, List.getElem?_toArray, List.getElem?_cons_zero, List.getElem?_cons_succ])
      (refine W_at c23_ok ?_; refine ⟨_, rfl, ?_⟩; simp (disch := first | omega | assumption | rfl | (simp only [vcS] <;> omega) | fail) only [↓ptV_l, ↓vcA, vcB, ↓vcD, vcE, ↓reduceIte, Nat.reduceEqDiff, Nat.reduceAdd, Nat.reduceMul, Nat.reduceLeDiff, Int.reduceLE, Int.reduceLT, Int.reduceEq, Int.reduceToNat, Int.reduceAdd, Int.reduceSub, Int.reduceMul, Int.reduceNeg, reduceCtorEq, Option.bind_some, Option.map_some, List.length_cons, List.length_nil, vcM, List.getElem?_toArray, List.getElem?_cons_zero, List.getElem?_cons_succ])
      (refine W_at c23_ok ?_; refine ⟨_, rfl, ?_⟩; simp (disch := first | omega | assumption | rfl | (simp only [vcS] <;> omega) | fail) only [↓ptV_l, ↓vcA, vcB, ↓vcD, vcE, ↓reduceIte, Nat.reduceEqDiff, Nat.reduceAdd, Nat.reduceMul, Nat.reduceLeDiff, Int.reduceLE, Int.reduceLT, Int.reduceEq, Int.reduceToNat, Int.reduceAdd, Int.reduceSub, Int.reduceMul, Int.reduceNeg, reduceCtorEq, Option.bind_some, Option.map_some, List.length_cons, List.length_nil, vcM, List.getElem?_toArray, List.getElem?_cons_zero, List.getElem?_cons_succ])
      (refine W_at c23_ok ?_; refine ⟨_, rfl, ?_⟩; simp (disch := first | omega | assumption | rfl | (simp only [vcS] <;> omega) | fail) only [↓ptV_l, ↓vcA, vcB, ↓vcD, vcE, ↓reduceIte, Nat.reduceEqDiff, Nat.reduceAdd, Nat.reduceMul, Nat.reduceLeDiff, Int.reduceLE, Int.reduceLT, Int.reduceEq, Int.reduceToNat, Int.reduceAdd, Int.reduceSub, Int.reduceMul, Int.reduceNeg, reduceCtorEq, Option.bind_some, Option.map_some, List.length_cons, List.length_nil, vcM, List.getElem?_toArray, List.getElem?_cons_zero, List.getElem?_cons_succ])
      (refine W_at c23_ok ?_; refine ⟨_, rfl, ?_⟩; simp (disch := first | omega | assumption | rfl | (simp only [vcS] <;> omega) | fail) only [↓ptV_l, ↓vcA, vcB, ↓vcD, vcE, ↓reduceIte, Nat.reduceEqDiff, Nat.reduceAdd, Nat.reduceMul, Nat.reduceLeDiff, Int.reduceLE, Int.reduceLT, Int.reduceEq, Int.reduceToNat, Int.reduceAdd, Int.reduceSub, Int.reduceMul, Int.reduceNeg, reduceCtorEq, Option.bind_some, Option.map_some, List.length_cons, List.length_nil, vcM, List.getElem?_toArray, List.getElem?_cons_zero, List.getElem?_cons_succ])
      rw [actR, if_neg (by decide), if_neg (by decide), if_pos rfl]
      (refine W_at c23_ok ?_; refine ⟨_, rfl, ?_⟩; simp (disch := first | omega | assumption | rfl | (simp only [vcS] <;> omega) | fail) only [↓ptV_l, ↓vcA, vcB, ↓vcD, vcE, ↓reduceIte, Nat.reduceEqDiff, Nat.reduceAdd, Nat.reduceMul, Nat.reduceLeDiff, Int.reduceLE, Int.reduceLT, Int.reduceEq, Int.reduceToNat, Int.reduceAdd, Int.reduceSub, Int.reduceMul, Int.reduceNeg, reduceCtorEq, Option.bind_some, Option.map_some, List.length_cons, List.length_nil, vcM, List.getElem?_toArray, List.getElem?_cons_zero, List.getElem?_cons_succ, h4, rdO3])
      refine callV_ret (iNum_ok w0 x bs a e 4 (hx.ext hE) hb ha (by omega) (by omega)) ?_
      rintro u w1 ⟨hE1, val, a', e', rfl, hab, g1, g2, g3⟩
      simp (disch := first | omega | assumption | rfl | (simp only [vcS] <;> omega) | fail) only [↓ptV_l, ↓vcA, vcB, ↓vcD, vcE, ↓reduceIte, Nat.reduceEqDiff, Nat.reduceAdd, Nat.reduceMul, Nat.reduceLeDiff, Int.reduceLE, Int.reduceLT, Int.reduceEq, Int.reduceToNat, Int.reduceAdd, Int.reduceSub, Int.reduceMul, Int.reduceNeg, reduceCtorEq, Option.bind_some, Option.map_some, List.length_cons, List.length_nil, vcM, List.getElem?_toArray, List.getElem?_cons_zero, List.getElem?_cons_succ, hz1, hx1]
      have h7 : ((w1.alloc (Obj.cells #[.slice none 0 0, .int .i64 0, .int .i64 0] 49)).putN w1.heap.size 0 #[x, .int .i64 a', .int .i64 e']).heap[w1.heap.size]? = some (.cells #[x, .int .i64 a', .int .i64 e'] 49 (0, 0)) := heap_local w1 rfl
      have hE2 : Ext w1 ((w1.alloc (Obj.cells #[.slice none 0 0, .int .i64 0, .int .i64 0] 49)).putN w1.heap.size 0 #[x, .int .i64 a', .int .i64 e']) := by (repeat' first | exact Keep.refl _ _ | assumption | refine Keep.drew ?_ | refine Keep.alloc ?_ _ | refine Keep.putN ?_ _ ?_ | refine Keep.setCell ?_ _ ?_ | refine Keep.setO ?_ _ ?_ | exact fun _ => Or.inl rfl | exact fun _ => Or.inr rfl | exact fun _ => rfl | (intro hh; exfalso; ((try simp only [vcS] at hh) <;> omega)))
      have h6c := hE2.at (hE1.at h6 fun h => h) fun h => h
      have hs1 := hE1.size
      have hs0 := hE.size
      have hp7 : w1.heap.size ≠ r := by omega
      generalize World.putN _ _ _ _ = w2 at h7 hE2 h6c ⊢
      generalize w1.heap.size = p7 at h7 hp7 ⊢
      have hW2 : Ext w w2 := hE.ext (hE1.ext hE2)
      have hBd : B < w2.drew.heap.size := Nat.lt_of_lt_of_le hB hW2.size
      (refine W_at c23_ok ?_; refine ⟨_, rfl, ?_⟩; simp (disch := first | omega | assumption | rfl | (simp only [vcS] <;> omega) | fail) only [↓ptV_l, ↓vcA, vcB, ↓vcD, vcE, ↓reduceIte, Nat.reduceEqDiff, Nat.reduceAdd, Nat.reduceMul, Nat.reduceLeDiff, Int.reduceLE, Int.reduceLT, Int.reduceEq, Int.reduceToNat, Int.reduceAdd, Int.reduceSub, Int.reduceMul, Int.reduceNeg, reduceCtorEq, Option.bind_some, Option.map_some, List.length_cons, List.length_nil, vcM, List.getElem?_toArray, List.getElem?_cons_zero, List.getElem?_cons_succ, h7, rdO3])
      refine callV_ret (ru32_ok w2.drew r B v (bs.drop a) e (hr.ext hW2.drew) hBd (byt_drop hb a)) ?_
      intro u w3 hT
      have h6d := hT.keep.at h6c hp6r
      have h7d := hT.keep.at h7 hp7
      obtain ⟨⟨v', hv'⟩, hor⟩ := both (w1 := w1) (φ := fun y v _ => v = .int .u64 y) g1 g2 g3 hT
      have hvals : ∃ y : Int, val = .int .u64 y ∧ u = .int .u32 y ∧ IntKind.u64.wrap y = y := by
        rcases hor with ⟨h1, h2⟩ | ⟨y, rest, h3, h1, h2⟩
        · exact ⟨0, h1, h2, rfl⟩
        · exact ⟨y, h1, h2, u64_num hb (by omega) h3⟩
      obtain ⟨y, rfl, rfl, hyw⟩ := hvals
      refine ⟨by rw [h7d, rdO3]; rfl, ?_⟩
      simp (disch := first | omega | assumption | rfl | (simp only [vcS] <;> omega) | fail) only [↓ptV_l, ↓vcA, vcB, ↓vcD, vcE, ↓reduceIte, Nat.reduceEqDiff, Nat.reduceAdd, Nat.reduceMul, Nat.reduceLeDiff, Int.reduceLE, Int.reduceLT, Int.reduceEq, Int.reduceToNat, Int.reduceAdd, Int.reduceSub, Int.reduceMul, Int.reduceNeg, reduceCtorEq, Option.bind_some, Option.map_some, List.length_cons, List.length_nil, vcM, List.getElem?_toArray, List.getElem?_cons_zero, List.getElem?_cons_succ, h6d, hyw, hx1]
      have hput' := hput w3 x (.int .i64 a') (.int .i64 e') h6d
      (refine W_at c23_ok ?_; refine ⟨_, rfl, ?_⟩; simp (disch := first | omega | assumption | rfl | (simp only [vcS] <;> omega) | fail) only [↓ptV_l, ↓vcA, vcB, ↓vcD, vcE, ↓reduceIte, Nat.reduceEqDiff, Nat.reduceAdd, Nat.reduceMul, Nat.reduceLeDiff, Int.reduceLE, Int.reduceLT, Int.reduceEq, Int.reduceToNat, Int.reduceAdd, Int.reduceSub, Int.reduceMul, Int.reduceNeg, reduceCtorEq, Option.bind_some, Option.map_some, List.length_cons, List.length_nil, vcM, List.getElem?_toArray, List.getElem?_cons_zero, List.getElem?_cons_succ, hput', Ret_returned])
      refine RdTo.mk' (w1 := w1) (φ := fun y v _ => v = .int .u64 y) ((((hW2.mono fun _ h => h.elim).drew).trans hT.keep fun _ _ h => h).putN _ (by omega)) hab.2 (hv'.keep ((Keep.refl _ w3).putN (S := fun i => i = p6) _ fun _ => rfl) (by omega) (by omega)) g1 g2 g3
    by_cases k4 : kind = 4
    · subst k4
      (refine W_at c23_ok ?_; refine ⟨_, rfl, ?_⟩; simp (disch := first | omega | assumption | rfl | (simp only [vcS] <;> omega) | fail) only [↓ptV_l, ↓vcA, vcB, ↓vcD, vcE, ↓reduceIte, Nat.reduceEqDiff, Nat.reduceAdd, Nat.reduceMul, Nat.reduceLeDiff, Int.reduceLE, Int.reduceLT, Int.reduceEq, Int.reduceToNat, Int.reduceAdd, Int.reduceSub, Int.reduceMul, Int.reduceNeg, reduceCtorEq, Option.bind_some, Option.map_some, List.length_cons, List.length_nil, vcM, List.getElem?_toArray, List.getElem?_cons_zero, List.getElem?_cons_succ])
      (refine W_at c23_ok ?_; refine ⟨_, rfl, ?_⟩; simp (disch := first | omega | assumption | rfl | (simp only [vcS] <;> omega) | fail) only [↓ptV_l, ↓vcA, vcB, ↓vcD, vcE, ↓reduceIte, Nat.reduceEqDiff, Nat.reduceAdd, Nat.reduceMul, Nat.reduceLeDiff, Int.reduceLE, Int.reduceLT, Int.reduceEq, Int.reduceToNat, Int.reduceAdd, Int.reduceSub, Int.reduceMul, Int.reduceNeg, reduceCtorEq, Option.bind_some, Option.map_some, List.length_cons, List.length_nil, vcM, List.getElem?_toArray, List.getElem?_cons_zero, List.getElem?_cons_succ])
      (refine W_at c23_ok ?_; refine ⟨_, rfl, ?_⟩; simp (disch := first | omega | assumption | rfl | (simp only [vcS] <;> omega) | fail) only [↓ptV_l, ↓vcA, vcB, ↓vcD, vcE, ↓reduceIte, Nat.reduceEqDiff, Nat.reduceAdd, Nat.reduceMul, Nat.reduceLeDiff, Int.reduceLE, Int.reduceLT, Int.reduceEq, Int.reduceToNat, Int.reduceAdd, Int.reduceSub, Int.reduceMul, Int.reduceNeg, reduceCtorEq, Option.bind_some, Option.map_some, List.length_cons, List.length_nil, vcM, List.getElem?_toArray, List.getElem?_cons_zero, List.getElem?_cons_succ])
      (refine W_at c23_ok ?_; refine ⟨_, rfl, ?_⟩; simp (disch := first | omega | assumption | rfl | (simp only [vcS] <;> omega) | fail) only [↓ptV_l, ↓vcA, vcB, ↓vcD, vcE, ↓reduceIte, Nat.reduceEqDiff, Nat.reduceAdd, Nat.reduceMul, Nat.reduceLeDiff, Int.reduceLE, Int.reduceLT, Int.reduceEq, Int.reduceToNat, Int.reduceAdd, Int.reduceSub, Int.reduceMul, Int.reduceNeg, reduceCtorEq, Option.bind_some, Option.map_some, List.length_cons, List.length_nil, vcM, List.getElem?_toArray, List.getElem?_cons_zero, List.getElem?_cons_succ])
      (refine W_at c23_ok ?_; refine ⟨_, rfl, ?_⟩; simp (disch := first | omega | assumption | rfl | (simp only [vcS] <;> omega) | fail) only [↓ptV_l, ↓vcA, vcB, ↓vcD, vcE, ↓reduceIte, Nat.reduceEqDiff, Nat.reduceAdd, Nat.reduceMul, Nat.reduceLeDiff, Int.reduceLE, Int.reduceLT, Int.reduceEq, Int.reduceToNat, Int.reduceAdd, Int.reduceSub, Int.reduceMul, Int.reduceNeg, reduceCtorEq, Option.bind_some, Option.map_some, List.length_cons, List.length_nil, vcM, List.getElem?_toArray, List.getElem?_cons_zero, List.getElem?_cons_succ])
      (refine W_at c23_ok ?_; refine ⟨_, rfl, ?_⟩; simp (disch := first | omega | assumption | rfl | (simp only [vcS] <;> omega) | fail) only [↓ptV_l, ↓vcA, vcB, ↓vcD, vcE, ↓reduceIte, Nat.reduceEqDiff, Nat.reduceAdd, Nat.reduceMul, Nat.reduceLeDiff, Int.reduceLE, Int.reduceLT, Int.reduceEq, Int.reduceToNat, Int.reduceAdd, Int.reduceSub, Int.reduceMul, Int.reduceNeg, reduceCtorEq, Option.bind_some, Option.map_some, List.length_cons, List.length_nil, vcM, List.getElem?_toArray, List.getElem?_cons_zero, List.getElem?_cons_succ])
      (refine W_at c23_ok ?_; refine ⟨_, rfl, ?_⟩; simp (disch := first | omega | assumption | rfl | (simp only [vcS] <;> omega) | fail) only [↓ptV_l, ↓vcA, vcB, ↓vcD, vcE, ↓reduceIte, Nat.reduceEqDiff, Nat.reduceAdd, Nat.reduceMul, Nat.reduceLeDiff, Int.reduceLE, Int.reduceLT, Int.reduceEq, Int.reduceToNat, Int.reduceAdd, Int.reduceSub, Int.reduceMul, Int.reduceNeg, reduceCtorEq, Option.bind_some, Option.map_some, List.length_cons, List.length_nil, vcM, List.getElem?_toArray, List.getElem?_cons_zero, List.getElem?_cons_succ])
      (refine W_at c23_ok ?_; refine ⟨_, rfl, ?_⟩; simp (disch := first | omega | assumption | rfl | (simp only [vcS] <;> omega) | fail) only [↓ptV_l, ↓vcA, vcB, ↓vcD, vcE, ↓reduceIte, Nat.reduceEqDiff, Nat.reduceAdd, Nat.reduceMul, Nat.reduceLeDiff, Int.reduceLE, Int.reduceLT, Int.reduceEq, Int.reduceToNat, Int.reduceAdd, Int.reduceSub, Int.reduceMul, Int.reduceNeg, reduceCtorEq, Option.bind_some, Option.map_some, List.length_cons, List.length_nil, vcM, List.getElem?_toArray, List.getElem?_cons_zero, List.getElem?_cons_succ])
      rw [actR, if_neg (by decide), if_neg (by decide), if_neg (by decide), if_pos rfl]
      (refine W_at c23_ok ?_; refine ⟨_, rfl, ?_⟩; simp (disch := first | omega | assumption | rfl | (simp only [vcS] <;> omega) | fail) only [↓ptV_l, ↓vcA, vcB, ↓vcD, vcE, ↓reduceIte, Nat.reduceEqDiff, Nat.reduceAdd, Nat.reduceMul, Nat.reduceLeDiff, Int.reduceLE, Int.reduceLT, Int.reduceEq, Int.reduceToNat, Int.reduceAdd, Int.reduceSub, Int.reduceMul, Int.reduceNeg, reduceCtorEq, Option.bind_some, Option.map_some, List.length_cons, List.length_nil, vcM, List.getElem?_toArray, List.getElem?_cons_zero, List.getElem?_cons_succ, h4, rdO3])
      refine callV_ret (iNum_ok w0 x bs a e 8 (hx.ext hE) hb ha (by omega) (by omega)) ?_
      rintro u w1 ⟨hE1, val, a', e', rfl, hab, g1, g2, g3⟩
      simp (disch := first | omega | assumption | rfl | (simp only [vcS] <;> omega) | fail) only [↓ptV_l, ↓vcA, vcB, ↓vcD, vcE, ↓reduceIte, Nat.reduceEqDiff, Nat.reduceAdd, Nat.reduceMul, Nat.reduceLeDiff, Int.reduceLE, Int.reduceLT, Int.reduceEq, Int.reduceToNat, Int.reduceAdd, Int.reduceSub, Int.reduceMul, Int.reduceNeg, reduceCtorEq, Option.bind_some, Option.map_some, List.length_cons, List.length_nil, vcM, List.getElem?_toArray, List.getElem?_cons_zero, List.getElem?_cons_succ, hz1, hx1]
      have h7 : ((w1.alloc (Obj.cells #[.slice none 0 0, .int .i64 0, .int .i64 0] 49)).putN w1.heap.size 0 #[x, .int .i64 a', .int .i64 e']).heap[w1.heap.size]? = some (.cells #[x, .int .i64 a', .int .i64 e'] 49 (0, 0)) := heap_local w1 rfl
      have hE2 : Ext w1 ((w1.alloc (Obj.cells #[.slice none 0 0, .int .i64 0, .int .i64 0] 49)).putN w1.heap.size 0 #[x, .int .i64 a', .int .i64 e']) := by (repeat' first | exact Keep.refl _ _ | assumption | refine Keep.drew ?_ | refine Keep.alloc ?_ _ | refine Keep.putN ?_ _ ?_ | refine Keep.setCell ?_ _ ?_ | refine Keep.setO ?_ _ ?_ | exact fun _ => Or.inl rfl | exact fun _ => Or.inr rfl | exact fun _ => rfl | (intro hh; exfalso; ((try simp only [vcS] at hh) <;> omega)))
      have h6c := hE2.at (hE1.at h6 fun h => h) fun h => h
      have hs1 := hE1.size
      have hs0 := hE.size
      have hp7 : w1.heap.size ≠ r := by omega
      generalize World.putN _ _ _ _ = w2 at h7 hE2 h6c ⊢
      generalize w1.heap.size = p7 at h7 hp7 ⊢
      have hW2 : Ext w w2 := hE.ext (hE1.ext hE2)
      have hBd : B < w2.drew.heap.size := Nat.lt_of_lt_of_le hB hW2.size
      (refine W_at c23_ok ?_; refine ⟨_, rfl, ?_⟩; simp (disch := first | omega | assumption | rfl | (simp only [vcS] <;> omega) | fail) only [↓ptV_l, ↓vcA, vcB, ↓vcD, vcE, ↓reduceIte, Nat.reduceEqDiff, Nat.reduceAdd, Nat.reduceMul, Nat.reduceLeDiff, Int.reduceLE, Int.reduceLT, Int.reduceEq, Int.reduceToNat, Int.reduceAdd, Int.reduceSub, Int.reduceMul, Int.reduceNeg, reduceCtorEq, Option.bind_some, Option.map_some, List.length_cons, List.length_nil, vcM, List.getElem?_toArray, List.getElem?_cons_zero, List.getElem?_cons_succ, h7, rdO3])
      refine callV_ret (ru64_ok w2.drew r B v (bs.drop a) e (hr.ext hW2.drew) hBd (byt_drop hb a)) ?_
      intro u w3 hT
      have h6d := hT.keep.at h6c hp6r
      have h7d := hT.keep.at h7 hp7
      obtain ⟨⟨v', hv'⟩, hor⟩ := both (w1 := w1) (φ := fun y v _ => v = .int .u64 y) g1 g2 g3 hT
      have hvals : ∃ y : Int, val = .int .u64 y ∧ u = .int .u64 y ∧ IntKind.u64.wrap y = y := by
        rcases hor with ⟨h1, h2⟩ | ⟨y, rest, h3, h1, h2⟩
        · exact ⟨0, h1, h2, rfl⟩
        · exact ⟨y, h1, h2, u64_num hb (by omega) h3⟩
      obtain ⟨y, rfl, rfl, hyw⟩ := hvals
      refine ⟨by rw [h7d, rdO3]; rfl, ?_⟩
      simp (disch := first | omega | assumption | rfl | (simp only [vcS] <;> omega) | fail) only [↓ptV_l, ↓vcA, vcB, ↓vcD, vcE, ↓reduceIte, Nat.reduceEqDiff, Nat.reduceAdd, Nat.reduceMul, Nat.reduceLeDiff, Int.reduceLE, Int.reduceLT, Int.reduceEq, Int.reduceToNat, Int.reduceAdd, Int.reduceSub, Int.reduceMul, Int.reduceNeg, reduceCtorEq, Option.bind_some, Option.map_some, List.length_cons, List.length_nil, vcM, List.getElem?_toArray, List.getElem?_cons_zero, List.getElem?_cons_succ, h6d, hyw, hx1]
      have hput' := hput w3 x (.int .i64 a') (.int .i64 e') h6d
      (refine W_at c23_ok ?_; refine ⟨_, rfl, ?_⟩; simp (disch := first | omega | assumption | rfl | (simp only [vcS] <;> omega) | fail) only [↓ptV_l, ↓vcA, vcB, ↓vcD, vcE, ↓reduceIte, Nat.reduceEqDiff, Nat.reduceAdd, Nat.reduceMul, Nat.reduceLeDiff, Int.reduceLE, Int.reduceLT, Int.reduceEq, Int.reduceToNat, Int.reduceAdd, Int.reduceSub, Int.reduceMul, Int.reduceNeg, reduceCtorEq, Option.bind_some, Option.map_some, List.length_cons, List.length_nil, vcM, List.getElem?_toArray, List.getElem?_cons_zero, List.getElem?_cons_succ, hput', Ret_returned])
      refine RdTo.mk' (w1 := w1) (φ := fun y v _ => v = .int .u64 y) ((((hW2.mono fun _ h => h.elim).drew).trans hT.keep fun _ _ h => h).putN _ (by omega)) hab.2 (hv'.keep ((Keep.refl _ w3).putN (S := fun i => i = p6) _ fun _ => rfl) (by omega) (by omega)) g1 g2 g3
    by_cases k5 : kind = 5
    · subst k5
      (refine W_at c23_ok ?_; refine ⟨_, rfl, ?_⟩; simp (disch := first | omega | assumption | rfl | (simp only [vcS] <;> omega) | fail) only [↓ptV_l, ↓vcA, vcB, ↓vcD, vcE, ↓reduceIte, Nat.reduceEqDiff, Nat.reduceAdd, Nat.reduceMul, Nat.reduceLeDiff, Int.reduceLE, Int.reduceLT, Int.reduceEq, Int.reduceToNat, Int.reduceAdd, Int.reduceSub, Int.reduceMul, Int.reduceNeg, reduceCtorEq, Option.bind_some, Option.map_some, List.length_cons, List.length_nil, vcM, List.getElem?_toArray, List.getElem?_cons_zero, List.getElem?_cons_succ])
      (refine W_at c23_ok ?_; refine ⟨_, rfl, ?_⟩; simp (disch := first | omega | assumption | rfl | (simp only [vcS] <;> omega) | fail) only [↓ptV_l, ↓vcA, vcB, ↓vcD, vcE, ↓reduceIte, Nat.reduceEqDiff, Nat.reduceAdd, Nat.reduceMul, Nat.reduceLeDiff, Int.reduceLE, Int.reduceLT, Int.reduceEq, Int.reduceToNat, Int.reduceAdd, Int.reduceSub, Int.reduceMul, Int.reduceNeg, reduceCtorEq, Option.bind_some, Option.map_some, List.length_cons, List.length_nil, vcM, List.getElem?_toArray, List.getElem?_cons_zero, List.getElem?_cons_succ])
      (refine W_at c23_ok ?_; refine ⟨_, rfl, ?_⟩; simp (disch := first | omega | assumption | rfl | (simp only [vcS] <;> omega) | fail) only [↓ptV_l, ↓vcA, vcB, ↓vcD, vcE, ↓reduceIte, Nat.reduceEqDiff, Nat.reduceAdd, Nat.reduceMul, Nat.reduceLeDiff, Int.reduceLE, Int.reduceLT, Int.reduceEq, Int.reduceToNat, Int.reduceAdd, Int.reduceSub, Int.reduceMul, Int.reduceNeg, reduceCtorEq, Option.bind_some, Option.map_some, List.length_cons, List.length_nil, vcM, List.getElem?_toArray, List.getElem?_cons_zero, List.getElem?_cons_succ])
      (refine W_at c23_ok ?_; refine ⟨_, rfl, ?_⟩; simp (disch := first | omega | assumption | rfl | (simp only [vcS] <;> omega) | fail) only [↓ptV_l, ↓vcA, vcB, ↓vcD, vcE, ↓reduceIte, Nat.reduceEqDiff, Nat.reduceAdd, Nat.reduceMul, Nat.reduceLeDiff, Int.reduceLE, Int.reduceLT, Int.reduceEq, Int.reduceToNat, Int.reduceAdd, Int.reduceSub, Int.reduceMul, Int.reduceNeg, reduceCtorEq, Option.bind_some, Option.map_some, List.length_cons, List.length_nil, vcM, List.getElem?_toArray, List.getElem?_cons_zero, List.getElem?_cons_succ])
      (refine W_at c23_ok ?_; refine ⟨_, rfl, ?_⟩; simp (disch := first | omega | assumption | rfl | (simp only [vcS] <;> omega) | fail) only [↓ptV_l, ↓vcA, vcB, ↓vcD, vcE, ↓reduceIte, Nat.reduceEqDiff, Nat.reduceAdd, Nat.reduceMul, Nat.reduceLeDiff, Int.reduceLE, Int.reduceLT, Int.reduceEq, Int.reduceToNat, Int.reduceAdd, Int.reduceSub, Int.reduceMul, Int.reduceNeg, reduceCtorEq, Option.bind_some, Option.map_some, List.length_cons, List.length_nil, vcM, List.getElem?_toArray, List.getElem?_cons_zero, List.getElem?_cons_succ])
      (refine W_at c23_ok ?_; refine ⟨_, rfl, ?_⟩; simp (disch := first | omega | assumption | rfl | (simp only [vcS] <;> omega) | fail) only [↓ptV_l, ↓vcA, vcB, ↓vcD, vcE, ↓reduceIte, Nat.reduceEqDiff, Nat.reduceAdd, Nat.reduceMul, Nat.reduceLeDiff, Int.reduceLE, Int.reduceLT, Int.reduceEq, Int.reduceToNat, Int.reduceAdd, Int.reduceSub, Int.reduceMul, Int.reduceNeg, reduceCtorEq, Option.bind_some, Option.map_some, List.length_cons, List.length_nil, vcM, List.getElem?_toArray, List.getElem?_cons_zero, List.getElem?_cons_succ])
      (refine W_at c23_ok ?_; refine ⟨_, rfl, ?_⟩; simp (disch := first | omega | assumption | rfl | (simp only [vcS] <;> omega) | fail) only [↓ptV_l, ↓vcA, vcB, ↓vcD, vcE, ↓reduceIte, Nat.reduceEqDiff, Nat.reduceAdd, Nat.reduceMul, Nat.reduceLeDiff, Int.reduceLE, Int.reduceLT, Int.reduceEq, Int.reduceToNat, Int.reduceAdd, Int.reduceSub, Int.reduceMul, Int.reduceNeg, reduceCtorEq, Option.bind_some, Option.map_some, List.length_cons, List.length_nil, vcM, List.getElem?_toArray, List.getElem?_cons_zero, List.getElem?_cons_succ])
      (refine W_at c23_ok ?_; refine ⟨_, rfl, ?_⟩; simp (disch := first | omega | assumption | rfl | (simp only [vcS] <;> omega) | fail) only [↓ptV_l, ↓vcA, vcB, ↓vcD, vcE, ↓reduceIte, Nat.reduceEqDiff, Nat.reduceAdd, Nat.reduceMul, Nat.reduceLeDiff, Int.reduceLE, Int.reduceLT, Int.reduceEq, Int.reduceToNat, Int.reduceAdd, Int.reduceSub, Int.reduceMul, Int.reduceNeg, reduceCtorEq, Option.bind_some, Option.map_some, List.length_cons, List.length_nil, vcM, List.getElem?_toArray, List.getElem?_cons_zero, List.getElem?_cons_succ])
      (refine W_at c23_ok ?_; refine ⟨_, rfl, ?_⟩; simp (disch := first | omega | assumption | rfl | (simp only [vcS] <;> omega) | fail) only [↓ptV_l, ↓vcA, vcB, ↓vcD, vcE, ↓reduceIte, Nat.reduceEqDiff, Nat.reduceAdd, Nat.reduceMul, Nat.reduceLeDiff, Int.reduceLE, Int.reduceLT, Int.reduceEq, Int.reduceToNat, Int.reduceAdd, Int.reduceSub, Int.reduceMul, Int.reduceNeg, reduceCtorEq, Option.bind_some, Option.map_some, List.length_cons, List.length_nil, vcM, List.getElem?_toArray, List.getElem?_cons_zero, List.getElem?_cons_succ])
      (refine W_at c23_ok ?_; refine ⟨_, rfl, ?_⟩; simp (disch := first | omega | assumption | rfl | (simp only [vcS] <;> omega) | fail) only [↓ptV_l, ↓vcA, vcB, ↓vcD, vcE, ↓reduceIte, Nat.reduceEqDiff, Nat.reduceAdd, Nat.reduceMul, Nat.reduceLeDiff, Int.reduceLE, Int.reduceLT, Int.reduceEq, Int.reduceToNat, Int.reduceAdd, Int.reduceSub, Int.reduceMul, Int.reduceNeg, reduceCtorEq, Option.bind_some, Option.map_some, List.length_cons, List.length_nil, vcM, List.getElem?_toArray, List.getElem?_cons_zero, List.getElem?_cons_succ])
      rw [actR, if_neg (by decide), if_neg (by decide), if_neg (by decide), if_neg (by decide), if_pos rfl]
      (refine W_at c23_ok ?_; refine ⟨_, rfl, ?_⟩; simp (disch := first | omega | assumption | rfl | (simp only [vcS] <;> omega) | fail) only [↓ptV_l, ↓vcA, vcB, ↓vcD, vcE, ↓reduceIte, Nat.reduceEqDiff, Nat.reduceAdd, Nat.reduceMul, Nat.reduceLeDiff, Int.reduceLE, Int.reduceLT, Int.reduceEq, Int.reduceToNat, Int.reduceAdd, Int.reduceSub, Int.reduceMul, Int.reduceNeg, reduceCtorEq, Option.bind_some, Option.map_some, List.length_cons, List.length_nil, vcM, List.getElem?_toArray, List.getElem?_cons_zero, List.getElem?_cons_succ, h4, rdO3])
      refine callV_ret (iCompact_ok w0 x bs a e (hx.ext hE) hb ha (by omega)) ?_
      rintro u w1 ⟨hE1, val, a', e', rfl, hab, g1, g2, g3⟩
      simp (disch := first | omega | assumption | rfl | (simp only [vcS] <;> omega) | fail) only [↓ptV_l, ↓vcA, vcB, ↓vcD, vcE, ↓reduceIte, Nat.reduceEqDiff, Nat.reduceAdd, Nat.reduceMul, Nat.reduceLeDiff, Int.reduceLE, Int.reduceLT, Int.reduceEq, Int.reduceToNat, Int.reduceAdd, Int.reduceSub, Int.reduceMul, Int.reduceNeg, reduceCtorEq, Option.bind_some, Option.map_some, List.length_cons, List.length_nil, vcM, List.getElem?_toArray, List.getElem?_cons_zero, List.getElem?_cons_succ, hz1, hx1]
      have h7 : ((w1.alloc (Obj.cells #[.slice none 0 0, .int .i64 0, .int .i64 0] 49)).putN w1.heap.size 0 #[x, .int .i64 a', .int .i64 e']).heap[w1.heap.size]? = some (.cells #[x, .int .i64 a', .int .i64 e'] 49 (0, 0)) := heap_local w1 rfl
      have hE2 : Ext w1 ((w1.alloc (Obj.cells #[.slice none 0 0, .int .i64 0, .int .i64 0] 49)).putN w1.heap.size 0 #[x, .int .i64 a', .int .i64 e']) := by (repeat' first | exact Keep.refl _ _ | assumption | refine Keep.drew ?_ | refine Keep.alloc ?_ _ | refine Keep.putN ?_ _ ?_ | refine Keep.setCell ?_ _ ?_ | refine Keep.setO ?_ _ ?_ | exact fun _ => Or.inl rfl | exact fun _ => Or.inr rfl | exact fun _ => rfl | (intro hh; exfalso; ((try simp only [vcS] at hh) <;> omega)))
      have h6c := hE2.at (hE1.at h6 fun h => h) fun h => h
      have hs1 := hE1.size
      have hs0 := hE.size
      have hp7 : w1.heap.size ≠ r := by omega
      generalize World.putN _ _ _ _ = w2 at h7 hE2 h6c ⊢
      generalize w1.heap.size = p7 at h7 hp7 ⊢
      have hW2 : Ext w w2 := hE.ext (hE1.ext hE2)
      have hBd : B < w2.drew.heap.size := Nat.lt_of_lt_of_le hB hW2.size
      (refine W_at c23_ok ?_; refine ⟨_, rfl, ?_⟩; simp (disch := first | omega | assumption | rfl | (simp only [vcS] <;> omega) | fail) only [↓ptV_l, ↓vcA, vcB, ↓vcD, vcE, ↓reduceIte, Nat.reduceEqDiff, Nat.reduceAdd, Nat.reduceMul, Nat.reduceLeDiff, Int.reduceLE, Int.reduceLT, Int.reduceEq, Int.reduceToNat, Int.reduceAdd, Int.reduceSub, Int.reduceMul, Int.reduceNeg, reduceCtorEq, Option.bind_some, Option.map_some, List.length_cons, List.length_nil, vcM, List.getElem?_toArray, List.getElem?_cons_zero, List.getElem?_cons_succ, h7, rdO3])
      refine callV_ret (rSize_ok w2.drew r B v (bs.drop a) e (hr.ext hW2.drew) hBd (byt_drop hb a)) ?_
      intro u w3 hT
      have h6d := hT.keep.at h6c hp6r
      have h7d := hT.keep.at h7 hp7
      obtain ⟨⟨v', hv'⟩, hor⟩ := both (w1 := w1) (φ := fun y v _ => v = .int .u64 y) g1 g2 g3 hT
      have hvals : ∃ y : Int, val = .int .u64 y ∧ u = .int .u64 y ∧ IntKind.u64.wrap y = y := by
        rcases hor with ⟨h1, h2⟩ | ⟨y, rest, h3, h1, h2⟩
        · exact ⟨0, h1, h2, rfl⟩
        · exact ⟨y, h1, h2, u64_sz hb h3⟩
      obtain ⟨y, rfl, rfl, hyw⟩ := hvals
      refine ⟨by rw [h7d, rdO3]; rfl, ?_⟩
      simp (disch := first | omega | assumption | rfl | (simp only [vcS] <;> omega) | fail) only [↓ptV_l, ↓vcA, vcB, ↓vcD, vcE, ↓reduceIte, Nat.reduceEqDiff, Nat.reduceAdd, Nat.reduceMul, Nat.reduceLeDiff, Int.reduceLE, Int.reduceLT, Int.reduceEq, Int.reduceToNat, Int.reduceAdd, Int.reduceSub, Int.reduceMul, Int.reduceNeg, reduceCtorEq, Option.bind_some, Option.map_some, List.length_cons, List.length_nil, vcM, List.getElem?_toArray, List.getElem?_cons_zero, List.getElem?_cons_succ, h6d, hyw, hx1]
      have hput' := hput w3 x (.int .i64 a') (.int .i64 e') h6d
      (refine W_at c23_ok ?_; refine ⟨_, rfl, ?_⟩; simp (disch := first | omega | assumption | rfl | (simp only [vcS] <;> omega) | fail) only [↓ptV_l, ↓vcA, vcB, ↓vcD, vcE, ↓reduceIte, Nat.reduceEqDiff, Nat.reduceAdd, Nat.reduceMul, Nat.reduceLeDiff, Int.reduceLE, Int.reduceLT, Int.reduceEq, Int.reduceToNat, Int.reduceAdd, Int.reduceSub, Int.reduceMul, Int.reduceNeg, reduceCtorEq, Option.bind_some, Option.map_some, List.length_cons, List.length_nil, vcM, List.getElem?_toArray, List.getElem?_cons_zero, List.getElem?_cons_succ, hput', Ret_returned])
      refine RdTo.mk' (w1 := w1) (φ := fun y v _ => v = .int .u64 y) ((((hW2.mono fun _ h => h.elim).drew).trans hT.keep fun _ _ h => h).putN _ (by omega)) hab.2 (hv'.keep ((Keep.refl _ w3).putN (S := fun i => i = p6) _ fun _ => rfl) (by omega) (by omega)) g1 g2 g3
    by_cases k6 : kind = 6
    · subst k6
      (refine W_at c23_ok ?_; refine ⟨_, rfl, ?_⟩; simp (disch := first | omega | assumption | rfl | (simp only [vcS] <;> omega) | fail) only [↓ptV_l, ↓vcA, vcB, ↓vcD, vcE, ↓reduceIte, Nat.reduceEqDiff, Nat.reduceAdd, Nat.reduceMul, Nat.reduceLeDiff, Int.reduceLE, Int.reduceLT, Int.reduceEq, Int.reduceToNat, Int.reduceAdd, Int.reduceSub, Int.reduceMul, Int.reduceNeg, reduceCtorEq, Option.bind_some, Option.map_some, List.length_cons, List.length_nil, vcM, List.getElem?_toArray, List.getElem?_cons_zero, List.getElem?_cons_succ])
      (refine W_at c23_ok ?_; refine ⟨_, rfl, ?_⟩; simp (disch := first | omega | assumption | rfl | (simp only [vcS] <;> omega) | fail) only [↓ptV_l, ↓vcA, vcB, ↓vcD, vcE, ↓reduceIte, Nat.reduceEqDiff, Nat.reduceAdd, Nat.reduceMul, Nat.reduceLeDiff, Int.reduceLE, Int.reduceLT, Int.reduceEq, Int.reduceToNat, Int.reduceAdd, Int.reduceSub, Int.reduceMul, Int.reduceNeg, reduceCtorEq, Option.bind_some, Option.map_some, List.length_cons, List.length_nil, vcM, List.getElem?_toArray, List.getElem?_cons_zero, List.getElem?_cons_succ])
      (refine W_at c23_ok ?_; refine ⟨_, rfl, ?_⟩; simp (disch := first | omega | assumption | rfl | (simp only [vcS] <;> omega) | fail) only [↓ptV_l, ↓vcA, vcB, ↓vcD, vcE, ↓reduceIte, Nat.reduceEqDiff, Nat.reduceAdd, Nat.reduceMul, Nat.reduceLeDiff, Int.reduceLE, Int.reduceLT, Int.reduceEq, Int.reduceToNat, Int.reduceAdd, Int.reduceSub, Int.reduceMul, Int.reduceNeg, reduceCtorEq, Option.bind_some, Option.map_some, List.length_cons, List.length_nil, vcM, List.getElem?_toArray, List.getElem?_cons_zero, List.getElem?_cons_succ])
      (refine W_at c23_ok ?_; refine ⟨_, rfl, ?_⟩; simp (disch := first | omega | assumption | rfl | (simp only [vcS] <;> omega) | fail) only [↓ptV_l, ↓vcA, vcB, ↓vcD, vcE, ↓reduceIte, Nat.reduceEqDiff, Nat.reduceAdd, Nat.reduceMul, Nat.reduceLeDiff, Int.reduceLE, Int.reduceLT, Int.reduceEq, Int.reduceToNat, Int.reduceAdd, Int.reduceSub, Int.reduceMul, Int.reduceNeg, reduceCtorEq, Option.bind_some, Option.map_some, List.length_cons, List.length_nil, vcM, List.getElem?_toArray, List.getElem?_cons_zero, List.getElem?_cons_succ])
      (refine W_at c23_ok ?_; refine ⟨_, rfl, ?_⟩; simp (disch := first | omega | assumption | rfl | (simp only [vcS] <;> omega) | fail) only [↓ptV_l, ↓vcA, vcB, ↓vcD, vcE, ↓reduceIte, Nat.reduceEqDiff, Nat.reduceAdd, Nat.reduceMul, Nat.reduceLeDiff, Int.reduceLE, Int.reduceLT, Int.reduceEq, Int.reduceToNat, Int.reduceAdd, Int.reduceSub, Int.reduceMul, Int.reduceNeg, reduceCtorEq, Option.bind_some, Option.map_some, List.length_cons, List.length_nil, vcM, List.getElem?_toArray, List.getElem?_cons_zero, List.getElem?_cons_succ])
      (refine W_at c23_ok ?_; refine ⟨_, rfl, ?_⟩; simp (disch := first | omega | assumption | rfl | (simp only [vcS] <;> omega) | fail) only [↓ptV_l, ↓vcA, vcB, ↓vcD, vcE, ↓reduceIte, Nat.reduceEqDiff, Nat.reduceAdd, Nat.reduceMul, Nat.reduceLeDiff, Int.reduceLE, Int.reduceLT, Int.reduceEq, Int.reduceToNat, Int.reduceAdd, Int.reduceSub, Int.reduceMul, Int.reduceNeg, reduceCtorEq, Option.bind_some, Option.map_some, List.length_cons, List.length_nil, vcM, List.getElem?_toArray, List.getElem?_cons_zero, List.getElem?_cons_succ])
      (refine W_at c23_ok ?_; refine ⟨_, rfl, ?_⟩; simp (disch := first | omega | assumption | rfl | (simp only [vcS] <;> omega) | fail) only [↓ptV_l, ↓vcA, vcB, ↓vcD, vcE, ↓reduceIte, Nat.reduceEqDiff, Nat.reduceAdd, Nat.reduceMul, Nat.reduceLeDiff, Int.reduceLE, Int.reduceLT, Int.reduceEq, Int.reduceToNat, Int.reduceAdd, Int.reduceSub, Int.reduceMul, Int.reduceNeg, reduceCtorEq, Option.bind_some, Option.map_some, List.length_cons, List.length_nil, vcM, List.getElem?_toArray, List.getElem?_cons_zero, List.getElem?_cons_succ])
      (refine W_at c23_ok ?_; refine ⟨_, rfl, ?_⟩; simp (disch := first | omega | assumption | rfl | (simp only [vcS] <;> omega) | fail) only [↓ptV_l, ↓vcA, vcB, ↓vcD, vcE, ↓reduceIte, Nat.reduceEqDiff, Nat.reduceAdd, Nat.reduceMul, Nat.reduceLeDiff, Int.reduceLE, Int.reduceLT, Int.reduceEq, Int.reduceToNat, Int.reduceAdd, Int.reduceSub, Int.reduceMul, Int.reduceNeg, reduceCtorEq, Option.bind_some, Option.map_some, List.length_cons, List.length_nil, vcM, List.getElem?_toArray, List.getElem?_cons_zero, List.getElem?_cons_succ])
      (refine W_at c23_ok ?_; refine ⟨_, rfl, ?_⟩; simp (disch := first | omega | assumption | rfl | (simp only [vcS] <;> omega) | fail) only [↓ptV_l, ↓vcA, vcB, ↓vcD, vcE, ↓reduceIte, Nat.reduceEqDiff, Nat.reduceAdd, Nat.reduceMul, Nat.reduceLeDiff, Int.reduceLE, Int.reduceLT, Int.reduceEq, Int.reduceToNat, Int.reduceAdd, Int.reduceSub, Int.reduceMul, Int.reduceNeg, reduceCtorEq, Option.bind_some, Option.map_some, List.length_cons, List.length_nil, vcM, List.getElem?_toArray, List.getElem?_cons_zero, List.getElem?_cons_succ])
      (refine W_at c23_ok ?_; refine ⟨_, rfl, ?_⟩; simp (disch := first | omega | assumption | rfl | (simp only [vcS] <;> omega) | fail) only [↓ptV_l, ↓vcA, vcB, ↓vcD, vcE, ↓reduceIte, Nat.reduceEqDiff, Nat.reduceAdd, Nat.reduceMul, Nat.reduceLeDiff, Int.reduceLE, Int.reduceLT, Int.reduceEq, Int.reduceToNat, Int.reduceAdd, Int.reduceSub, Int.reduceMul, Int.reduceNeg, reduceCtorEq, Option.bind_some, Option.map_some, List.length_cons, List.length_nil, vcM, List.getElem?_toArray, List.getElem?_cons_zero, List.getElem?_cons_succ])
      (refine W_at c23_ok ?_; refine ⟨_, rfl, ?_⟩; simp (disch := first | omega | assumption | rfl | (simp only [vcS] <;> omega) | fail) only [↓ptV_l, ↓vcA, vcB, ↓vcD, vcE, ↓reduceIte, Nat.reduceEqDiff, Nat.reduceAdd, Nat.reduceMul, Nat.reduceLeDiff, Int.reduceLE, Int.reduceLT, Int.reduceEq, Int.reduceToNat, Int.reduceAdd, Int.reduceSub, Int.reduceMul, Int.reduceNeg, reduceCtorEq, Option.bind_some, Option.map_some, List.length_cons, List.length_nil, vcM, List.getElem?_toArray, List.getElem?_cons_zero, List.getElem?_cons_succ])
      (refine W_at c23_ok ?_; refine ⟨_, rfl, ?_⟩; simp (disch := first | omega | assumption | rfl | (simp only [vcS] <;> omega) | fail) only [↓ptV_l, ↓vcA, vcB, ↓vcD, vcE, ↓reduceIte, Nat.reduceEqDiff, Nat.reduceAdd, Nat.reduceMul, Nat.reduceLeDiff, Int.reduceLE, Int.reduceLT, Int.reduceEq, Int.reduceToNat, Int.reduceAdd, Int.reduceSub, Int.reduceMul, Int.reduceNeg, reduceCtorEq, Option.bind_some, Option.map_some, List.length_cons, List.length_nil, vcM, List.getElem?_toArray, List.getElem?_cons_zero, List.getElem?_cons_succ])
      rw [actR, if_neg (by decide), if_neg (by decide), if_neg (by decide), if_neg (by decide), if_neg (by decide), if_pos rfl, hnn]
      (refine W_at c23_ok ?_; refine ⟨_, rfl, ?_⟩; simp (disch := first | omega | assumption | rfl | (simp only [vcS] <;> omega) | fail) only [↓ptV_l, ↓vcA, vcB, ↓vcD, vcE, ↓reduceIte, Nat.reduceEqDiff, Nat.reduceAdd, Nat.reduceMul, Nat.reduceLeDiff, Int.reduceLE, Int.reduceLT, Int.reduceEq, Int.reduceToNat, Int.reduceAdd, Int.reduceSub, Int.reduceMul, Int.reduceNeg, reduceCtorEq, Option.bind_some, Option.map_some, List.length_cons, List.length_nil, vcM, List.getElem?_toArray, List.getElem?_cons_zero, List.getElem?_cons_succ, h4, rdO3])
      refine callV_ret (iRaw_ok w0 x bs a e nn (hx.ext hE) ha (by omega) (by omega)) ?_
      rintro u w1 ⟨hE1, val, a', e', rfl, hab, g1, g2, g3⟩
      simp (disch := first | omega | assumption | rfl | (simp only [vcS] <;> omega) | fail) only [↓ptV_l, ↓vcA, vcB, ↓vcD, vcE, ↓reduceIte, Nat.reduceEqDiff, Nat.reduceAdd, Nat.reduceMul, Nat.reduceLeDiff, Int.reduceLE, Int.reduceLT, Int.reduceEq, Int.reduceToNat, Int.reduceAdd, Int.reduceSub, Int.reduceMul, Int.reduceNeg, reduceCtorEq, Option.bind_some, Option.map_some, List.length_cons, List.length_nil, vcM, List.getElem?_toArray, List.getElem?_cons_zero, List.getElem?_cons_succ, hz1, hx1]
      have h7 : ((w1.alloc (Obj.cells #[.slice none 0 0, .int .i64 0, .int .i64 0] 49)).putN w1.heap.size 0 #[x, .int .i64 a', .int .i64 e']).heap[w1.heap.size]? = some (.cells #[x, .int .i64 a', .int .i64 e'] 49 (0, 0)) := heap_local w1 rfl
      have hE2 : Ext w1 ((w1.alloc (Obj.cells #[.slice none 0 0, .int .i64 0, .int .i64 0] 49)).putN w1.heap.size 0 #[x, .int .i64 a', .int .i64 e']) := by (repeat' first | exact Keep.refl _ _ | assumption | refine Keep.drew ?_ | refine Keep.alloc ?_ _ | refine Keep.putN ?_ _ ?_ | refine Keep.setCell ?_ _ ?_ | refine Keep.setO ?_ _ ?_ | exact fun _ => Or.inl rfl | exact fun _ => Or.inr rfl | exact fun _ => rfl | (intro hh; exfalso; ((try simp only [vcS] at hh) <;> omega)))
      have h6c := hE2.at (hE1.at h6 fun h => h) fun h => h
      have hs1 := hE1.size
      have hs0 := hE.size
      have hp7 : w1.heap.size ≠ r := by omega
      generalize World.putN _ _ _ _ = w2 at h7 hE2 h6c ⊢
      generalize w1.heap.size = p7 at h7 hp7 ⊢
      have hW2 : Ext w w2 := hE.ext (hE1.ext hE2)
      have hBd : B < w2.drew.heap.size := Nat.lt_of_lt_of_le hB hW2.size
      (refine W_at c23_ok ?_; refine ⟨_, rfl, ?_⟩; simp (disch := first | omega | assumption | rfl | (simp only [vcS] <;> omega) | fail) only [↓ptV_l, ↓vcA, vcB, ↓vcD, vcE, ↓reduceIte, Nat.reduceEqDiff, Nat.reduceAdd, Nat.reduceMul, Nat.reduceLeDiff, Int.reduceLE, Int.reduceLT, Int.reduceEq, Int.reduceToNat, Int.reduceAdd, Int.reduceSub, Int.reduceMul, Int.reduceNeg, reduceCtorEq, Option.bind_some, Option.map_some, List.length_cons, List.length_nil, vcM, List.getElem?_toArray, List.getElem?_cons_zero, List.getElem?_cons_succ, h7, rdO3])
      refine callV_ret (rRaw_ok w2.drew r B v (bs.drop a) e nn (hr.ext hW2.drew) hBd (by rw [List.length_drop]; omega)) ?_
      intro u w3 hT
      have h6d := hT.keep.at h6c hp6r
      have h7d := hT.keep.at h7 hp7
      obtain ⟨⟨v', hv'⟩, hor⟩ := both (w1 := w1) (φ := OwnN w0.heap.size) g1 g2 g3 hT
      have hvals : ∃ y : List Int, Rd w3 val y ∧ Rd w3 u y ∧ byt y := by
        rcases hor with ⟨rfl, rfl⟩ | ⟨y, rest, h3, h1, h2⟩
        · exact ⟨[], Rd.nil _, Rd.nil _, byt_nil⟩
        · exact ⟨y, (h1.1.keep (((hE2.mono fun _ h => h.elim).drew).trans hT.keep fun _ _ h => h) fun g hg (h : g = r) => by have := h1.2 g hg; omega).rd, h2.1.rd, rawR_byt (byt_drop hb a) h3⟩
      obtain ⟨y, hy1, hy2, hyb2⟩ := hvals
      refine ⟨by rw [h7d, rdO3]; rfl, ?_⟩
      first | (simp (disch := first | omega | assumption | rfl | (simp only [vcS] <;> omega) | fail) only [↓ptV_l, ↓vcA, vcB, ↓vcD, vcE, ↓reduceIte, Nat.reduceEqDiff, Nat.reduceAdd, Nat.reduceMul, Nat.reduceLeDiff, Int.reduceLE, Int.reduceLT, Int.reduceEq, Int.reduceToNat, Int.reduceAdd, Int.reduceSub, Int.reduceMul, Int.reduceNeg, reduceCtorEq, Option.bind_some, Option.map_some, List.length_cons, List.length_nil, vcM, List.getElem?_toArray, List.getElem?_cons_zero, List.getElem?_cons_succ]) | skip
      refine callV_ret (equal_ok w3 u val y y hy2 hy1 hyb2 hyb2) ?_
      rintro _ wq ⟨rfl, hw⟩
      obtain rfl : w3 = wq := hw.symm
      refine ⟨by rw [h7d, rdO3]; rfl, ?_⟩
      rw [show decide (y = y) = true from decide_eq_true rfl]
      simp (disch := first | omega | assumption | rfl | (simp only [vcS] <;> omega) | fail) only [↓ptV_l, ↓vcA, vcB, ↓vcD, vcE, ↓reduceIte, Nat.reduceEqDiff, Nat.reduceAdd, Nat.reduceMul, Nat.reduceLeDiff, Int.reduceLE, Int.reduceLT, Int.reduceEq, Int.reduceToNat, Int.reduceAdd, Int.reduceSub, Int.reduceMul, Int.reduceNeg, reduceCtorEq, Option.bind_some, Option.map_some, List.length_cons, List.length_nil, vcM, List.getElem?_toArray, List.getElem?_cons_zero, List.getElem?_cons_succ, h6d, hx1]
      have hput' := hput w3 x (.int .i64 a') (.int .i64 e') h6d
      (refine W_at c23_ok ?_; refine ⟨_, rfl, ?_⟩; simp (disch := first | omega | assumption | rfl | (simp only [vcS] <;> omega) | fail) only [↓ptV_l, ↓vcA, vcB, ↓vcD, vcE, ↓reduceIte, Nat.reduceEqDiff, Nat.reduceAdd, Nat.reduceMul, Nat.reduceLeDiff, Int.reduceLE, Int.reduceLT, Int.reduceEq, Int.reduceToNat, Int.reduceAdd, Int.reduceSub, Int.reduceMul, Int.reduceNeg, reduceCtorEq, Option.bind_some, Option.map_some, List.length_cons, List.length_nil, vcM, List.getElem?_toArray, List.getElem?_cons_zero, List.getElem?_cons_succ, hput', Ret_returned])
      refine RdTo.mk' (w1 := w1) (φ := OwnN w0.heap.size) ((((hW2.mono fun _ h => h.elim).drew).trans hT.keep fun _ _ h => h).putN _ (by omega)) hab.2 (hv'.keep ((Keep.refl _ w3).putN (S := fun i => i = p6) _ fun _ => rfl) (by omega) (by omega)) g1 g2 g3
    (refine W_at c23_ok ?_; refine ⟨_, rfl, ?_⟩; simp (disch := first | omega | assumption | rfl | (simp only [vcS] <;> omega) | fail) only [↓ptV_l, ↓vcA, vcB, ↓vcD, vcE, ↓reduceIte, Nat.reduceEqDiff, Nat.reduceAdd, Nat.reduceMul, Nat.reduceLeDiff, Int.reduceLE, Int.reduceLT, Int.reduceEq, Int.reduceToNat, Int.reduceAdd, Int.reduceSub, Int.reduceMul, Int.reduceNeg, reduceCtorEq, Option.bind_some, Option.map_some, List.length_cons, List.length_nil, vcM, List.getElem?_toArray, List.getElem?_cons_zero, List.getElem?_cons_succ, k1, k2, k3, k4, k5, k6])
    (refine W_at c23_ok ?_; refine ⟨_, rfl, ?_⟩; simp (disch := first | omega | assumption | rfl | (simp only [vcS] <;> omega) | fail) only [↓ptV_l, ↓vcA, vcB, ↓vcD, vcE, ↓reduceIte, Nat.reduceEqDiff, Nat.reduceAdd, Nat.reduceMul, Nat.reduceLeDiff, Int.reduceLE, Int.reduceLT, Int.reduceEq, Int.reduceToNat, Int.reduceAdd, Int.reduceSub, Int.reduceMul, Int.reduceNeg, reduceCtorEq, Option.bind_some, Option.map_some, List.length_cons, List.length_nil, vcM, List.getElem?_toArray, List.getElem?_cons_zero, List.getElem?_cons_succ])
    (refine W_at c23_ok ?_; refine ⟨_, rfl, ?_⟩; simp (disch := first | omega | assumption | rfl | (simp only [vcS] <;> omega) | fail) only [↓ptV_l, ↓vcA, vcB, ↓vcD, vcE, ↓reduceIte, Nat.reduceEqDiff, Nat.reduceAdd, Nat.reduceMul, Nat.reduceLeDiff, Int.reduceLE, Int.reduceLT, Int.reduceEq, Int.reduceToNat, Int.reduceAdd, Int.reduceSub, Int.reduceMul, Int.reduceNeg, reduceCtorEq, Option.bind_some, Option.map_some, List.length_cons, List.length_nil, vcM, List.getElem?_toArray, List.getElem?_cons_zero, List.getElem?_cons_succ, k1, k2, k3, k4, k5, k6])
    (refine W_at c23_ok ?_; refine ⟨_, rfl, ?_⟩; simp (disch := first | omega | assumption | rfl | (simp only [vcS] <;> omega) | fail) only [↓ptV_l, ↓vcA, vcB, ↓vcD, vcE, ↓reduceIte, Nat.reduceEqDiff, Nat.reduceAdd, Nat.reduceMul, Nat.reduceLeDiff, Int.reduceLE, Int.reduceLT, Int.reduceEq, Int.reduceToNat, Int.reduceAdd, Int.reduceSub, Int.reduceMul, Int.reduceNeg, reduceCtorEq, Option.bind_some, Option.map_some, List.length_cons, List.length_nil, vcM, List.getElem?_toArray, List.getElem?_cons_zero, List.getElem?_cons_succ])
    (refine W_at c23_ok ?_; refine ⟨_, rfl, ?_⟩; simp (disch := first | omega | assumption | rfl | (simp only [vcS] <;> omega) | fail) only [↓ptV_l, ↓vcA, vcB, ↓vcD, vcE, ↓reduceIte, Nat.reduceEqDiff, Nat.reduceAdd, Nat.reduceMul, Nat.reduceLeDiff, Int.reduceLE, Int.reduceLT, Int.reduceEq, Int.reduceToNat, Int.reduceAdd, Int.reduceSub, Int.reduceMul, Int.reduceNeg, reduceCtorEq, Option.bind_some, Option.map_some, List.length_cons, List.length_nil, vcM, List.getElem?_toArray, List.getElem?_cons_zero, List.getElem?_cons_succ, k1, k2, k3, k4, k5, k6])
    (refine W_at c23_ok ?_; refine ⟨_, rfl, ?_⟩; simp (disch := first | omega | assumption | rfl | (simp only [vcS] <;> omega) | fail) only [↓ptV_l, ↓vcA, vcB, ↓vcD, vcE, ↓reduceIte, Nat.reduceEqDiff, Nat.reduceAdd, Nat.reduceMul, Nat.reduceLeDiff, Int.reduceLE, Int.reduceLT, Int.reduceEq, Int.reduceToNat, Int.reduceAdd, Int.reduceSub, Int.reduceMul, Int.reduceNeg, reduceCtorEq, Option.bind_some, Option.map_some, List.length_cons, List.length_nil, vcM, List.getElem?_toArray, List.getElem?_cons_zero, List.getElem?_cons_succ])
    (refine W_at c23_ok ?_; refine ⟨_, rfl, ?_⟩; simp (disch := first | omega | assumption | rfl | (simp only [vcS] <;> omega) | fail) only [↓ptV_l, ↓vcA, vcB, ↓vcD, vcE, ↓reduceIte, Nat.reduceEqDiff, Nat.reduceAdd, Nat.reduceMul, Nat.reduceLeDiff, Int.reduceLE, Int.reduceLT, Int.reduceEq, Int.reduceToNat, Int.reduceAdd, Int.reduceSub, Int.reduceMul, Int.reduceNeg, reduceCtorEq, Option.bind_some, Option.map_some, List.length_cons, List.length_nil, vcM, List.getElem?_toArray, List.getElem?_cons_zero, List.getElem?_cons_succ, k1, k2, k3, k4, k5, k6])
    (refine W_at c23_ok ?_; refine ⟨_, rfl, ?_⟩; simp (disch := first | omega | assumption | rfl | (simp only [vcS] <;> omega) | fail) only [↓ptV_l, ↓vcA, vcB, ↓vcD, vcE, ↓reduceIte, Nat.reduceEqDiff, Nat.reduceAdd, Nat.reduceMul, Nat.reduceLeDiff, Int.reduceLE, Int.reduceLT, Int.reduceEq, Int.reduceToNat, Int.reduceAdd, Int.reduceSub, Int.reduceMul, Int.reduceNeg, reduceCtorEq, Option.bind_some, Option.map_some, List.length_cons, List.length_nil, vcM, List.getElem?_toArray, List.getElem?_cons_zero, List.getElem?_cons_succ])
    (refine W_at c23_ok ?_; refine ⟨_, rfl, ?_⟩; simp (disch := first | omega | assumption | rfl | (simp only [vcS] <;> omega) | fail) only [↓ptV_l, ↓vcA, vcB, ↓vcD, vcE, ↓reduceIte, Nat.reduceEqDiff, Nat.reduceAdd, Nat.reduceMul, Nat.reduceLeDiff, Int.reduceLE, Int.reduceLT, Int.reduceEq, Int.reduceToNat, Int.reduceAdd, Int.reduceSub, Int.reduceMul, Int.reduceNeg, reduceCtorEq, Option.bind_some, Option.map_some, List.length_cons, List.length_nil, vcM, List.getElem?_toArray, List.getElem?_cons_zero, List.getElem?_cons_succ, k1, k2, k3, k4, k5, k6])
    (refine W_at c23_ok ?_; refine ⟨_, rfl, ?_⟩; simp (disch := first | omega | assumption | rfl | (simp only [vcS] <;> omega) | fail) only [↓ptV_l, ↓vcA, vcB, ↓vcD, vcE, ↓reduceIte, Nat.reduceEqDiff, Nat.reduceAdd, Nat.reduceMul, Nat.reduceLeDiff, Int.reduceLE, Int.reduceLT, Int.reduceEq, Int.reduceToNat, Int.reduceAdd, Int.reduceSub, Int.reduceMul, Int.reduceNeg, reduceCtorEq, Option.bind_some, Option.map_some, List.length_cons, List.length_nil, vcM, List.getElem?_toArray, List.getElem?_cons_zero, List.getElem?_cons_succ])
    (refine W_at c23_ok ?_; refine ⟨_, rfl, ?_⟩; simp (disch := first | omega | assumption | rfl | (simp only [vcS] <;> omega) | fail) only [↓ptV_l, ↓vcA, vcB, ↓vcD, vcE, ↓reduceIte, Nat.reduceEqDiff, Nat.reduceAdd, Nat.reduceMul, Nat.reduceLeDiff, Int.reduceLE, Int.reduceLT, Int.reduceEq, Int.reduceToNat, Int.reduceAdd, Int.reduceSub, Int.reduceMul, Int.reduceNeg, reduceCtorEq, Option.bind_some, Option.map_some, List.length_cons, List.length_nil, vcM, List.getElem?_toArray, List.getElem?_cons_zero, List.getElem?_cons_succ, k1, k2, k3, k4, k5, k6])
    (refine W_at c23_ok ?_; refine ⟨_, rfl, ?_⟩; simp (disch := first | omega | assumption | rfl | (simp only [vcS] <;> omega) | fail) only [↓ptV_l, ↓vcA, vcB, ↓vcD, vcE, ↓reduceIte, Nat.reduceEqDiff, Nat.reduceAdd, Nat.reduceMul, Nat.reduceLeDiff, Int.reduceLE, Int.reduceLT, Int.reduceEq, Int.reduceToNat, Int.reduceAdd, Int.reduceSub, Int.reduceMul, Int.reduceNeg, reduceCtorEq, Option.bind_some, Option.map_some, List.length_cons, List.length_nil, vcM, List.getElem?_toArray, List.getElem?_cons_zero, List.getElem?_cons_succ])
    rw [actR, if_neg k1, if_neg k2, if_neg k3, if_neg k4, if_neg k5, if_neg k6, hnn]
    (refine W_at c23_ok ?_; refine ⟨_, rfl, ?_⟩; simp (disch := first | omega | assumption | rfl | (simp only [vcS] <;> omega) | fail) only [↓ptV_l, ↓vcA, vcB, ↓vcD, vcE, ↓reduceIte, Nat.reduceEqDiff, Nat.reduceAdd, Nat.reduceMul, Nat.reduceLeDiff, Int.reduceLE, Int.reduceLT, Int.reduceEq, Int.reduceToNat, Int.reduceAdd, Int.reduceSub, Int.reduceMul, Int.reduceNeg, reduceCtorEq, Option.bind_some, Option.map_some, List.length_cons, List.length_nil, vcM, List.getElem?_toArray, List.getElem?_cons_zero, List.getElem?_cons_succ, h4, rdO3])
    refine callV_ret (iList_ok w0 x bs a e nn (hx.ext hE) hb ha (by omega)) ?_
    rintro u w1 ⟨hE1, val, a', e', rfl, hab, g1, g2, g3⟩
    simp (disch := first | omega | assumption | rfl | (simp only [vcS] <;> omega) | fail) only [↓ptV_l, ↓vcA, vcB, ↓vcD, vcE, ↓reduceIte, Nat.reduceEqDiff, Nat.reduceAdd, Nat.reduceMul, Nat.reduceLeDiff, Int.reduceLE, Int.reduceLT, Int.reduceEq, Int.reduceToNat, Int.reduceAdd, Int.reduceSub, Int.reduceMul, Int.reduceNeg, reduceCtorEq, Option.bind_some, Option.map_some, List.length_cons, List.length_nil, vcM, List.getElem?_toArray, List.getElem?_cons_zero, List.getElem?_cons_succ, hz1, hx1]
    have h7 : ((w1.alloc (Obj.cells #[.slice none 0 0, .int .i64 0, .int .i64 0] 49)).putN w1.heap.size 0 #[x, .int .i64 a', .int .i64 e']).heap[w1.heap.size]? = some (.cells #[x, .int .i64 a', .int .i64 e'] 49 (0, 0)) := heap_local w1 rfl
    have hE2 : Ext w1 ((w1.alloc (Obj.cells #[.slice none 0 0, .int .i64 0, .int .i64 0] 49)).putN w1.heap.size 0 #[x, .int .i64 a', .int .i64 e']) := by (repeat' first | exact Keep.refl _ _ | assumption | refine Keep.drew ?_ | refine Keep.alloc ?_ _ | refine Keep.putN ?_ _ ?_ | refine Keep.setCell ?_ _ ?_ | refine Keep.setO ?_ _ ?_ | exact fun _ => Or.inl rfl | exact fun _ => Or.inr rfl | exact fun _ => rfl | (intro hh; exfalso; ((try simp only [vcS] at hh) <;> omega)))
    have h6c := hE2.at (hE1.at h6 fun h => h) fun h => h
    have hs1 := hE1.size
    have hs0 := hE.size
    have hp7 : w1.heap.size ≠ r := by omega
    generalize World.putN _ _ _ _ = w2 at h7 hE2 h6c ⊢
    generalize w1.heap.size = p7 at h7 hp7 ⊢
    have hW2 : Ext w w2 := hE.ext (hE1.ext hE2)
    have hBd : B < w2.drew.heap.size := Nat.lt_of_lt_of_le hB hW2.size
    (refine W_at c23_ok ?_; refine ⟨_, rfl, ?_⟩; simp (disch := first | omega | assumption | rfl | (simp only [vcS] <;> omega) | fail) only [↓ptV_l, ↓vcA, vcB, ↓vcD, vcE, ↓reduceIte, Nat.reduceEqDiff, Nat.reduceAdd, Nat.reduceMul, Nat.reduceLeDiff, Int.reduceLE, Int.reduceLT, Int.reduceEq, Int.reduceToNat, Int.reduceAdd, Int.reduceSub, Int.reduceMul, Int.reduceNeg, reduceCtorEq, Option.bind_some, Option.map_some, List.length_cons, List.length_nil, vcM, List.getElem?_toArray, List.getElem?_cons_zero, List.getElem?_cons_succ, h7, rdO3])
    refine callV_ret (rBytes_ok w2.drew r B v (bs.drop a) e nn (hr.ext hW2.drew) hBd (byt_drop hb a) (by rw [List.length_drop]; omega)) ?_
    intro u w3 hT
    have h6d := hT.keep.at h6c hp6r
    have h7d := hT.keep.at h7 hp7
    obtain ⟨⟨v', hv'⟩, hor⟩ := both (w1 := w1) (φ := OwnN w0.heap.size) g1 g2 g3 hT
    have hvals : ∃ y : List Int, Rd w3 val y ∧ Rd w3 u y ∧ byt y := by
      rcases hor with ⟨rfl, rfl⟩ | ⟨y, rest, h3, h1, h2⟩
      · exact ⟨[], Rd.nil _, Rd.nil _, byt_nil⟩
      · exact ⟨y, (h1.1.keep (((hE2.mono fun _ h => h.elim).drew).trans hT.keep fun _ _ h => h) fun g hg (h : g = r) => by have := h1.2 g hg; omega).rd, h2.1.rd, bytR_byt (byt_drop hb a) h3⟩
    obtain ⟨y, hy1, hy2, hyb2⟩ := hvals
    refine ⟨by rw [h7d, rdO3]; rfl, ?_⟩
    first | (simp (disch := first | omega | assumption | rfl | (simp only [vcS] <;> omega) | fail) only [↓ptV_l, ↓vcA, vcB, ↓vcD, vcE, ↓reduceIte, Nat.reduceEqDiff, Nat.reduceAdd, Nat.reduceMul, Nat.reduceLeDiff, Int.reduceLE, Int.reduceLT, Int.reduceEq, Int.reduceToNat, Int.reduceAdd, Int.reduceSub, Int.reduceMul, Int.reduceNeg, reduceCtorEq, Option.bind_some, Option.map_some, List.length_cons, List.length_nil, vcM, List.getElem?_toArray, List.getElem?_cons_zero, List.getElem?_cons_succ]) | skip
    refine callV_ret (equal_ok w3 u val y y hy2 hy1 hyb2 hyb2) ?_
    rintro _ wq ⟨rfl, hw⟩
    obtain rfl : w3 = wq := hw.symm
    refine ⟨by rw [h7d, rdO3]; rfl, ?_⟩
    rw [show decide (y = y) = true from decide_eq_true rfl]
    simp (disch := first | omega | assumption | rfl | (simp only [vcS] <;> omega) | fail) only [↓ptV_l, ↓vcA, vcB, ↓vcD, vcE, ↓reduceIte, Nat.reduceEqDiff, Nat.reduceAdd, Nat.reduceMul, Nat.reduceLeDiff, Int.reduceLE, Int.reduceLT, Int.reduceEq, Int.reduceToNat, Int.reduceAdd, Int.reduceSub, Int.reduceMul, Int.reduceNeg, reduceCtorEq, Option.bind_some, Option.map_some, List.length_cons, List.length_nil, vcM, List.getElem?_toArray, List.getElem?_cons_zero, List.getElem?_cons_succ, h6d, hx1]
    have hput' := hput w3 x (.int .i64 a') (.int .i64 e') h6d
    (refine W_at c23_ok ?_; refine ⟨_, rfl, ?_⟩; simp (disch := first | omega | assumption | rfl | (simp only [vcS] <;> omega) | fail) only [↓ptV_l, ↓vcA, vcB, ↓vcD, vcE, ↓reduceIte, Nat.reduceEqDiff, Nat.reduceAdd, Nat.reduceMul, Nat.reduceLeDiff, Int.reduceLE, Int.reduceLT, Int.reduceEq, Int.reduceToNat, Int.reduceAdd, Int.reduceSub, Int.reduceMul, Int.reduceNeg, reduceCtorEq, Option.bind_some, Option.map_some, List.length_cons, List.length_nil, vcM, List.getElem?_toArray, List.getElem?_cons_zero, List.getElem?_cons_succ, hput', Ret_returned])
    refine RdTo.mk' (w1 := w1) (φ := OwnN w0.heap.size) ((((hW2.mono fun _ h => h.elim).drew).trans hT.keep fun _ _ h => h).putN _ (by omega)) hab.2 (hv'.keep ((Keep.refl _ w3).putN (S := fun i => i = p6) _ fun _ => rfl) (by omega) (by omega)) g1 g2 g3
  (refine W_at c23_ok ?_; refine ⟨_, rfl, ?_⟩; simp (disch := first | omega | assumption | rfl | (simp only [vcS] <;> omega) | fail) only [↓ptV_l, ↓vcA, vcB, ↓vcD, vcE, ↓reduceIte, Nat.reduceEqDiff, Nat.reduceAdd, Nat.reduceMul, Nat.reduceLeDiff, Int.reduceLE, Int.reduceLT, Int.reduceEq, Int.reduceToNat, Int.reduceAdd, Int.reduceSub, Int.reduceMul, Int.reduceNeg, reduceCtorEq, Option.bind_some, Option.map_some, List.length_cons, List.length_nil, vcM, List.getElem?_toArray, List.getElem?_cons_zero, List.getElem?_cons_succ, h5, hrem, hcv, hn4])
  unfold nR at hkey
  by_cases hbig : 9223372036854775808 < n
  · rw [if_pos hbig] at hkey
    (refine W_at c23_ok ?_; refine ⟨_, rfl, ?_⟩; simp (disch := first | omega | assumption | rfl | (simp only [vcS] <;> omega) | fail) only [↓ptV_l, ↓vcA, vcB, ↓vcD, vcE, ↓reduceIte, Nat.reduceEqDiff, Nat.reduceAdd, Nat.reduceMul, Nat.reduceLeDiff, Int.reduceLE, Int.reduceLT, Int.reduceEq, Int.reduceToNat, Int.reduceAdd, Int.reduceSub, Int.reduceMul, Int.reduceNeg, reduceCtorEq, Option.bind_some, Option.map_some, List.length_cons, List.length_nil, vcM, List.getElem?_toArray, List.getElem?_cons_zero, List.getElem?_cons_succ, h5, hbig])
    (refine W_at c23_ok ?_; refine ⟨_, rfl, ?_⟩; simp (disch := first | omega | assumption | rfl | (simp only [vcS] <;> omega) | fail) only [↓ptV_l, ↓vcA, vcB, ↓vcD, vcE, ↓reduceIte, Nat.reduceEqDiff, Nat.reduceAdd, Nat.reduceMul, Nat.reduceLeDiff, Int.reduceLE, Int.reduceLT, Int.reduceEq, Int.reduceToNat, Int.reduceAdd, Int.reduceSub, Int.reduceMul, Int.reduceNeg, reduceCtorEq, Option.bind_some, Option.map_some, List.length_cons, List.length_nil, vcM, List.getElem?_toArray, List.getElem?_cons_zero, List.getElem?_cons_succ])
    (refine W_at c23_ok ?_; refine ⟨_, rfl, ?_⟩; simp (disch := first | omega | assumption | rfl | (simp only [vcS] <;> omega) | fail) only [↓ptV_l, ↓vcA, vcB, ↓vcD, vcE, ↓reduceIte, Nat.reduceEqDiff, Nat.reduceAdd, Nat.reduceMul, Nat.reduceLeDiff, Int.reduceLE, Int.reduceLT, Int.reduceEq, Int.reduceToNat, Int.reduceAdd, Int.reduceSub, Int.reduceMul, Int.reduceNeg, reduceCtorEq, Option.bind_some, Option.map_some, List.length_cons, List.length_nil, vcM, List.getElem?_toArray, List.getElem?_cons_zero, List.getElem?_cons_succ, hng])
    exact hkey _
  · rw [if_neg hbig] at hkey
    (refine W_at c23_ok ?_; refine ⟨_, rfl, ?_⟩; simp (disch := first | omega | assumption | rfl | (simp only [vcS] <;> omega) | fail) only [↓ptV_l, ↓vcA, vcB, ↓vcD, vcE, ↓reduceIte, Nat.reduceEqDiff, Nat.reduceAdd, Nat.reduceMul, Nat.reduceLeDiff, Int.reduceLE, Int.reduceLT, Int.reduceEq, Int.reduceToNat, Int.reduceAdd, Int.reduceSub, Int.reduceMul, Int.reduceNeg, reduceCtorEq, Option.bind_some, Option.map_some, List.length_cons, List.length_nil, vcM, List.getElem?_toArray, List.getElem?_cons_zero, List.getElem?_cons_succ, h5, hbig])
    (refine W_at c23_ok ?_; refine ⟨_, rfl, ?_⟩; simp (disch := first | omega | assumption | rfl | (simp only [vcS] <;> omega) | fail) only [↓ptV_l, ↓vcA, vcB, ↓vcD, vcE, ↓reduceIte, Nat.reduceEqDiff, Nat.reduceAdd, Nat.reduceMul, Nat.reduceLeDiff, Int.reduceLE, Int.reduceLT, Int.reduceEq, Int.reduceToNat, Int.reduceAdd, Int.reduceSub, Int.reduceMul, Int.reduceNeg, reduceCtorEq, Option.bind_some, Option.map_some, List.length_cons, List.length_nil, vcM, List.getElem?_toArray, List.getElem?_cons_zero, List.getElem?_cons_succ])
    exact hkey _
end Go.Proofs
