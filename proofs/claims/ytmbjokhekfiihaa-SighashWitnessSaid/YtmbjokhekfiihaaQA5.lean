/- Laws that the last text of this claim uses, part 5: written for it, merged by program. -/
import Derived.Test.YtmbjokhekfiihaaQA4
set_option linter.unusedSimpArgs false
set_option linter.unusedVariables false
set_option linter.constructorNameAsVariable false
namespace Go.Proofs
open Go.Vc
set_option maxRecDepth 10000

def pC (prev : List Int) (idx : Int) : Array Value := (bv prev ++ [Value.int .u32 idx]).toArray
theorem pC_size {prev : List Int} (h : prev.length = 32) (idx : Int) : (pC prev idx).size = 33 := by simp [pC, bv_len, h]
theorem pC_flat (prev : List Int) (idx : Int) : flat (pC prev idx) := by
  intro y hy
  simp only [pC, List.mem_append, List.mem_cons, List.not_mem_nil, or_false] at hy
  rcases hy with hy | rfl
  · exact bv_flat prev y (by simpa using hy)
  · rfl
theorem pC_32 {prev : List Int} (h : prev.length = 32) (idx : Int) : (pC prev idx)[32]? = some (.int .u32 idx) := by
  simp [pC, bv_len, h]
theorem pC_rd {w : World} {g : Nat} {prev : List Int} {idx : Int} {T : TypeId} (hx : prev.length = 32) (h : w.heap[g]? = some (.cells (pC prev idx) T (0, 0))) : Rd w (.slice (some ⟨g, 0, none⟩) 32 32) prev := by
  refine ⟨⟨_, 32, by rw [hx], by omega⟩, by rw [hx]; decide, ?_⟩
  simp only [rdS]
  rw [if_neg (by omega), rdN_heap, h, rdO_some _ _ _ _ _ (by rw [pC_size hx]; omega)]
  congr 1
  apply Array.ext'
  simp [pC, bv_len, hx]
/-- Steps of a writer, one behind the other. -/
theorem WTo.pre {w w1 w2 : World} {p : Nat} {v : Value} {bs : List Int} (k : Ext w w1) (h : WTo w1 w2 p v bs) : WTo w w2 p v bs := by
  obtain ⟨⟨v2, ha, hg⟩, hk⟩ := h
  exact ⟨⟨v2, ha, fun g hb => (hg g hb).imp id fun h => Nat.le_trans k.size h⟩, (k.mono fun _ h => h.elim).trans hk fun i _ h => h⟩
theorem WTo.then {w w1 : World} {p : Nat} {v : Value} {bs : List Int} (h : WTo w w1 p v bs) : ∃ v1, WAt w1 p v1 bs ∧ ∀ w2 bs2, WTo w1 w2 p v1 bs2 → WTo w w2 p v bs2 := by
  obtain ⟨⟨v1, ha, hg⟩, hk⟩ := h
  exact ⟨v1, ha, fun w2 bs2 h2 => WTo.trans hk hg h2⟩
set_option maxHeartbeats 1600000 in
theorem place_ok (w : World) (p : Nat) (v : Value) (bs prev : List Int) (idx : Int) (h : WAt w p v bs) (hp : prev.length = 32) (hi : 0 ≤ idx ∧ idx ≤ 4294967295) (hl : bs.length ≤ 90000000) :
    Calls Try.prog 38 #[.pointer (some ⟨p, 0, none⟩), .agg (pC prev idx)] w (Ret fun _ w' => WTo w w' p v (bs ++ (prev ++ lowF 4 idx))) := by
  refine calls_of_cfg c38_ok (Nat.le_of_ble_eq_true rfl) ?_
  simp only [argE_nil, argE_cons, Nat.reduceAdd, Nat.zero_add]
  have hf := pC_flat prev idx
  have hc : (Value.agg (pC prev idx)).cells = pC prev idx := rfl
  have hz := pC_size hp idx
  (refine W_at c38_ok ?_; refine ⟨_, rfl, ?_⟩; simp (disch := first | omega | assumption | rfl | (simp only [vcS] <;> omega) | fail) only [↓ptV_l, ↓vcA, vcB, ↓reduceIte, reduceCtorEq, hc])
  have hE : Ext w (w.alloc (.cells (pC prev idx) 47)) := (Keep.refl _ w).alloc _
  have h3 : (w.alloc (.cells (pC prev idx) 47)).heap[w.heap.size]? = some (.cells (pC prev idx) 47 (0, 0)) := heap_new _ _ _ rfl
  generalize World.alloc _ _ = w1 at hE h3 ⊢
  generalize w.heap.size = p3 at h3 ⊢
  have hW := h.keep hE (fun h => h) fun _ _ h => h
  have hr := pC_rd hp h3
  have c32 := pC_32 hp idx
  (refine W_at c38_ok ?_; refine ⟨_, rfl, ?_⟩; simp (disch := first | omega | assumption | rfl | (simp only [vcS] <;> omega) | fail) only [↓ptV_l, ↓vcA, vcB, ↓reduceIte, Nat.reduceEqDiff, reduceCtorEq, Option.bind_some, Option.map_some, Nat.sub_zero])
  refine callV_ret (raw_ok w1 p v bs _ prev hW hr (by omega)) ?_
  intro _ w2 hT
  have h32 := hT.at hW h3 (by decide) (by decide)
  obtain ⟨v2, hW2, hn⟩ := (hT.pre hE).then
  first | (simp (disch := first | omega | assumption | rfl | (simp only [vcS] <;> omega) | fail) only [↓ptV_l, ↓vcA, vcB, ↓vcD, vcE, ↓reduceIte, Nat.reduceEqDiff, Nat.reduceAdd, Nat.reduceMul, Nat.reduceLeDiff, Int.reduceLE, Int.reduceLT, Int.reduceEq, Int.reduceToNat, Int.reduceAdd, Int.reduceSub, Int.reduceMul, Int.reduceNeg, reduceCtorEq, Option.bind_some, Option.map_some, List.length_cons, List.length_nil, vcM, List.getElem?_toArray, List.getElem?_cons_zero, List.getElem?_cons_succ]) | skip
  (refine W_at c38_ok ?_; refine ⟨_, rfl, ?_⟩; simp (disch := first | omega | assumption | rfl | (simp only [vcS] <;> omega) | fail) only [↓ptV_l, ↓vcA, vcB, ↓reduceIte, Nat.reduceEqDiff, reduceCtorEq, Option.bind_some, Option.map_some, vcM, h32, c32])
  refine callV_ret (u32_ok w2 p v2 _ idx hW2 (by rw [List.length_append]; omega) hi) ?_
  intro _ w3 hT3
  first | (simp (disch := first | omega | assumption | rfl | (simp only [vcS] <;> omega) | fail) only [↓ptV_l, ↓vcA, vcB, ↓vcD, vcE, ↓reduceIte, Nat.reduceEqDiff, Nat.reduceAdd, Nat.reduceMul, Nat.reduceLeDiff, Int.reduceLE, Int.reduceLT, Int.reduceEq, Int.reduceToNat, Int.reduceAdd, Int.reduceSub, Int.reduceMul, Int.reduceNeg, reduceCtorEq, Option.bind_some, Option.map_some, List.length_cons, List.length_nil, vcM, List.getElem?_toArray, List.getElem?_cons_zero, List.getElem?_cons_succ]) | skip
  (refine W_at c38_ok ?_; refine ⟨_, rfl, ?_⟩; simp (disch := first | omega | assumption | rfl | (simp only [vcS] <;> omega) | fail) only [↓vcA, vcB, Ret_returned])
  rw [← List.append_assoc]
  exact hn _ _ hT3
def zeroD : List Int := List.replicate 32 0
set_option maxHeartbeats 1600000 in
theorem over_ok (w : World) (is : Bool) (g : FuncId) (cap : Array Value) (hg : plainF Try.prog g = true) (bs : List Int) (hb : byt bs) (hl : bs.length ≤ 90000000)
    (hc : ∀ w0 w1 p, Ext w w0 → WMid w0 w1 p (.slice none 0 0) [] → Calls Try.prog g ([] ++ [Value.pointer (some ⟨p, 0, none⟩)] ++ cap.toList).toArray w1 (Ret fun _ w' => ∃ v', WMid w0 w' p v' bs)) :
    Calls Try.prog 36 #[.bool is, .func (.func g) #[] cap] w (Ret fun u w' => u = .agg (bv (if is then dblF bs else zeroD)).toArray ∧ Ext w w') := by
  refine calls_of_cfg c36_ok (Nat.le_of_ble_eq_true rfl) ?_
  simp only [argE_nil, argE_cons, Nat.reduceAdd, Nat.zero_add]
  (refine W_at c36_ok ?_; refine ⟨_, rfl, ?_⟩; simp (disch := first | omega | assumption | rfl | (simp only [vcS] <;> omega) | fail) only [↓ptV_l, ↓vcA, vcB, ↓reduceIte, Nat.reduceEqDiff, reduceCtorEq])
  have hE : Ext w (w.alloc (.cells (zc [(32, .int .u8 0)]) 36)) := (Keep.refl _ w).alloc _
  have h4 : (w.alloc (.cells (zc [(32, .int .u8 0)]) 36)).heap[w.heap.size]? = some (.cells (zc [(32, .int .u8 0)]) 36 (0, 0)) := heap_new _ _ _ rfl
  generalize hw1 : World.alloc _ _ = w1 at hE h4 ⊢
  generalize hp4 : w.heap.size = p4 at h4 ⊢
  cases is with
  | false =>
    have hb0 : #[] ++ zc [(32, Value.int .u8 0)] = (bv zeroD).toArray := rfl
    have hb1 : zc [(32, Value.int .u8 0)] = (bv zeroD).toArray := rfl
    have s32 : (bv zeroD).toArray.size = 32 := rfl
    rw [hb1] at h4
    (refine W_at c36_ok ?_; refine ⟨_, rfl, ?_⟩; simp (disch := first | omega | assumption | rfl | (simp only [vcS] <;> omega) | fail) only [↓vcA, vcB, ↓reduceIte, Nat.reduceEqDiff, reduceCtorEq, Option.bind_some])
    (refine W_at c36_ok ?_; refine ⟨_, rfl, ?_⟩; simp (disch := first | omega | assumption | rfl | (simp only [vcS] <;> omega) | fail) only [↓vcA, vcB, ↓reduceIte, Nat.reduceEqDiff])
    have o32 : okO (some (.cells (bv zeroD).toArray 36 (0, 0))) 0 32 = True := by simp only [okO, s32]; simp
    (refine W_at c36_ok ?_; refine ⟨_, rfl, ?_⟩; simp (disch := first | omega | assumption | rfl | (simp only [vcS] <;> omega) | fail) only [↓ptV_l, ↓vcA, vcB, ↓reduceIte, Nat.reduceEqDiff, Option.map_some, vcM, hb1, s32, h4, o32])
    refine ⟨bv_flat _, ?_⟩
    have d9 : (w1.putN p4 0 (bv zeroD).toArray).heap[p4]? = some (.cells (bv zeroD).toArray 36 (0, 0)) := by rw [heap_putN_eq h4, splice_all (by rw [s32])]
    have hr32 : rdO (some (.cells (bv zeroD).toArray 36 (0, 0))) 0 32 = some (bv zeroD).toArray := rdO_all _ _ _ _ s32
    (refine W_at c36_ok ?_; refine ⟨_, rfl, ?_⟩; simp (disch := first | omega | assumption | rfl | (simp only [vcS] <;> omega) | fail) only [↓vcA, vcB, ↓reduceIte, Option.bind_some, Option.map_some, vcM, d9, hr32, Ret_returned])
    exact hE.trans ((Keep.refl (fun g => g = p4) w1).putN _ fun _ => rfl) fun g hg e => by omega
  | true =>
    have hzz : (zc [(32, Value.int .u8 0)]).size = 32 := rfl
    (refine W_at c36_ok ?_; refine ⟨_, rfl, ?_⟩; simp (disch := first | omega | assumption | rfl | (simp only [vcS] <;> omega) | fail) only [↓vcA, vcB, ↓reduceIte, Nat.reduceEqDiff, reduceCtorEq, Option.bind_some])
    (refine W_at c36_ok ?_; refine ⟨_, rfl, ?_⟩; simp (disch := first | omega | assumption | rfl | (simp only [vcS] <;> omega) | fail) only [↓vcA, vcB, ↓reduceIte, Nat.reduceEqDiff])
    have hW := new_writer w1
    have h42 := hW.ext.at h4 (fun h => h)
    (refine W_at c36_ok ?_; refine ⟨_, rfl, ?_⟩; simp (disch := first | omega | assumption | rfl | (simp only [vcS] <;> omega) | fail) only [↓ptV_l, ↓vcA, vcB, ↓reduceIte, Nat.reduceEqDiff])
    generalize World.alloc _ _ = w2 at hW h42 ⊢
    generalize w1.heap.size = p5 at hW ⊢
    (refine W_at c36_ok ?_; refine ⟨_, rfl, ?_⟩; simp (disch := first | omega | assumption | rfl | (simp only [vcS] <;> omega) | fail) only [↓ptV_l, ↓vcA, vcB, ↓vcD, vcE, ↓reduceIte, Nat.reduceEqDiff, Option.bind_some, Option.map_some, hg])
    refine callV_ret (hc w1 w2 p5 hE hW) ?_
    rintro _ w3 ⟨v3, hW3⟩
    first | (simp (disch := first | omega | assumption | rfl | (simp only [vcS] <;> omega) | fail) only [↓ptV_l, ↓vcA, vcB, ↓vcD, vcE, ↓reduceIte, Nat.reduceEqDiff, Nat.reduceAdd, Nat.reduceMul, Nat.reduceLeDiff, Int.reduceLE, Int.reduceLT, Int.reduceEq, Int.reduceToNat, Int.reduceAdd, Int.reduceSub, Int.reduceMul, Int.reduceNeg, reduceCtorEq, Option.bind_some, Option.map_some, List.length_cons, List.length_nil, vcM, List.getElem?_toArray, List.getElem?_cons_zero, List.getElem?_cons_succ]) | skip
    (refine W_at c36_ok ?_; refine ⟨_, rfl, ?_⟩; simp (disch := first | omega | assumption | rfl | (simp only [vcS] <;> omega) | fail) only [↓ptV_l, ↓vcA, vcB, ↓reduceIte, Nat.reduceEqDiff, Option.bind_some, Option.map_some])
    refine callV_ret (out_ok w3 p5 v3 _ hW3.at' (by omega)) ?_
    rintro u4 w4 ⟨o4, e4, n4⟩
    first | (simp (disch := first | omega | assumption | rfl | (simp only [vcS] <;> omega) | fail) only [↓ptV_l, ↓vcA, vcB, ↓vcD, vcE, ↓reduceIte, Nat.reduceEqDiff, Nat.reduceAdd, Nat.reduceMul, Nat.reduceLeDiff, Int.reduceLE, Int.reduceLT, Int.reduceEq, Int.reduceToNat, Int.reduceAdd, Int.reduceSub, Int.reduceMul, Int.reduceNeg, reduceCtorEq, Option.bind_some, Option.map_some, List.length_cons, List.length_nil, vcM, List.getElem?_toArray, List.getElem?_cons_zero, List.getElem?_cons_succ]) | skip
    refine callV_ret (double_ok w4 u4 _ o4.rd hb (by omega)) ?_
    rintro _ w5 ⟨rfl, e5⟩
    have h85 := e5.at (e4.at (hW3.ext.at h4 (fun h => h)) (fun h => h)) (fun h => h)
    have s32 : (bv (dblF bs)).toArray.size = 32 := by rw [bva_size, dblF_len]
    have o32 : okO (some (.cells (zc [(32, .int .u8 0)]) 36 (0, 0))) 0 32 = True := by simp only [okO, hzz]; simp
    first | (simp (disch := first | omega | assumption | rfl | (simp only [vcS] <;> omega) | fail) only [↓vcA, vcB, vcM, h85, s32, o32]) | skip
    refine ⟨bv_flat _, ?_⟩
    have d9 : (w5.putN p4 0 (bv (dblF bs)).toArray).heap[p4]? = some (.cells (bv (dblF bs)).toArray 36 (0, 0)) := by
      rw [heap_putN_eq h85, splice_all (by rw [s32]; rfl)]
    have hr32 : rdO (some (.cells (bv (dblF bs)).toArray 36 (0, 0))) 0 32 = some (bv (dblF bs)).toArray := rdO_all _ _ _ _ s32
    (refine W_at c36_ok ?_; refine ⟨_, rfl, ?_⟩; simp (disch := first | omega | assumption | rfl | (simp only [vcS] <;> omega) | fail) only [↓vcA, vcB, ↓reduceIte, Option.bind_some, Option.map_some, vcM, d9, hr32, Ret_returned])
    exact (hE.ext ((hW3.ext.ext e4).ext e5)).trans ((Keep.refl (fun g => g = p4) w5).putN _ fun _ => rfl) fun g hg e => by omega
end Go.Proofs
namespace Go.Proofs
open Go.Vc
set_option maxRecDepth 10000

def plF (x : TxI) : List Int := x.prev ++ lowF 4 x.idx
def sqF (x : TxI) : List Int := lowF 4 x.seq
theorem iC_pC {x : TxI} (hx : x.prev.length = 32) (sv wv : Value) : (iC x sv wv).extract 0 33 = pC x.prev x.idx := by
  apply Array.ext'
  have h33 : List.take 33 (bv x.prev) = bv x.prev := List.take_of_length_le (by rw [bv_len, hx]; omega)
  simp [iC, pC, List.take_append, bv_len, hx, h33]
theorem rd_pC {w : World} {g : Nat} {x : TxI} {sv wv : Value} {T : TypeId} (hx : x.prev.length = 32) (h : w.heap[g]? = some (.cells (iC x sv wv) T (0, 0))) : rdO w.heap[g]? 0 33 = some (pC x.prev x.idx) := by
  rw [h, rdO_some _ _ _ _ _ (by rw [iC_size hx]; omega), Nat.zero_add, iC_pC hx]
theorem plF_len {l : List TxI} (h : ∀ x ∈ l, x.prev.length = 32) : (l.flatMap plF).length = 36 * l.length := by
  induction l with
  | nil => rfl
  | cons x l ih =>
    have a := h x (by simp)
    have b := ih fun y hy => h y (by simp [hy])
    simp only [List.flatMap_cons, List.length_append, List.length_cons, plF, lowF_len, a] at b ⊢
    omega
theorem sqF_len (l : List TxI) : (l.flatMap sqF).length = 4 * l.length := by
  induction l with
  | nil => rfl
  | cons x l ih => simp only [List.flatMap_cons, List.length_append, List.length_cons, sqF, lowF_len, ih]; omega
set_option maxHeartbeats 3200000 in
theorem soutputs_ok (w0 w : World) (p : Nat) (v ov : Value) (l : List TxO) (h : WMid w0 w p v []) (hO : OusR w0 ov l) (hok : ∀ y ∈ l, y.Ok) (hn : l.length ≤ 100) (hs : ∀ y ∈ l, y.script.length ≤ 1000) :
    Calls Try.prog 41 #[.pointer (some ⟨p, 0, none⟩), ov] w (Ret fun _ w' => ∃ v', WMid w0 w' p v' (l.flatMap encO)) := by
  refine calls_of_cfg c41_ok (Nat.le_of_ble_eq_true rfl) ?_
  simp only [argE_nil, argE_cons, Nat.reduceAdd, Nat.zero_add]
  have hlO := hO.len
  (refine W_at c41_ok ?_; refine ⟨_, rfl, ?_⟩; simp (disch := first | omega | assumption | rfl | (simp only [vcS] <;> omega) | fail) only [↓vcA, vcB, ↓reduceIte, Nat.reduceEqDiff, reduceCtorEq, Option.bind_some, hlO])
  have L2 : ∀ (k i : Nat) (wj : World) (vj : Value) (tl : Env), i + k = l.length → WMid w0 wj p vj ((l.take i).flatMap encO) →
      W Try.prog (Ret fun _ w' => ∃ v', WMid w0 w' p v' (l.flatMap encO)) 41 7 ((0, .pointer (some ⟨p, 0, none⟩)) :: (6, ov) :: (7, .int .i64 (l.length : Nat)) :: (8, .int .i64 (i : Nat)) :: tl) wj := by
    intro k
    induction k with
    | zero =>
      intro i wj vj tl hi hWj
      obtain rfl : i = l.length := by omega
      rw [List.take_length] at hWj
      have hno : ¬ ((l.length : Nat) : Int) < (l.length : Nat) := by omega
      (refine W_at c41_ok ?_; refine ⟨_, rfl, ?_⟩; simp (disch := first | omega | assumption | rfl | (simp only [vcS] <;> omega) | fail) only [↓vcA, vcB, ↓reduceIte, Nat.reduceEqDiff, reduceCtorEq, Option.bind_some, hno])
      (refine W_at c41_ok ?_; refine ⟨_, rfl, ?_⟩; simp (disch := first | omega | assumption | rfl | (simp only [vcS] <;> omega) | fail) only [↓vcA, vcB, ↓reduceIte, Nat.reduceEqDiff, reduceCtorEq])
      (refine W_at c41_ok ?_; refine ⟨_, rfl, ?_⟩; simp (disch := first | omega | assumption | rfl | (simp only [vcS] <;> omega) | fail) only [↓vcA, vcB, Ret_returned])
      exact ⟨vj, hWj⟩
    | succ k ih =>
      intro i wj vj tl hi hWj
      have hil : i < l.length := by omega
      have hlt : ((i : Nat) : Int) < (l.length : Nat) := by omega
      have b1 : 0 ≤ ((i : Nat) : Int) ∧ ((i : Nat) : Int) < (l.length : Nat) := by omega
      have hwi : IntKind.i64.wrap (((i : Nat) : Int) + 1) = ((i + 1 : Nat) : Int) := wrap_i64 (by omega) (by omega)
      obtain ⟨b, o, c, cs, ev, hr0, hcs, sv, ecs, hsvW⟩ := hO.at hil
      have hr := rdO_ext' hWj.ext hr0
      have hsv := hsvW.ext hWj.ext
      have hsv1 := hsv.one
      have hok := hok _ (List.getElem_mem hil)
      have hscl := hs _ (List.getElem_mem hil)
      have htk := take_flat encO hil
      have hbi := flatO_len (l := l.take i) (m := 1000) (fun x hx => hs x (List.mem_of_mem_take hx))
      have hbl : (l.take i).length ≤ 100 := by rw [List.length_take]; omega
      generalize l[i] = y at hsv hsvW ecs hok hscl htk
      subst ecs
      rw [ev]
      have c0 : (oC y sv)[0]? = some (.int .i64 y.val) := rfl
      have c1 : (oC y sv)[1]? = some sv := rfl
      have s2 : (oC y sv).size = 2 := rfl
      (refine W_at c41_ok ?_; refine ⟨_, rfl, ?_⟩; simp (disch := first | omega | assumption | rfl | (simp only [vcS] <;> omega) | fail) only [↓vcA, vcB, ↓reduceIte, Nat.reduceEqDiff, reduceCtorEq, Option.bind_some, hlt])
      (refine W_at c41_ok ?_; refine ⟨_, rfl, ?_⟩; simp (disch := first | omega | assumption | rfl | (simp only [vcS] <;> omega) | fail) only [↓vcA, vcB, ↓reduceIte, Nat.reduceEqDiff, reduceCtorEq])
      (refine W_at c41_ok ?_; refine ⟨_, rfl, ?_⟩; simp (disch := first | omega | assumption | rfl | (simp only [vcS] <;> omega) | fail) only [↓ptV_l, ↓vcA, vcB, ↓reduceIte, Nat.reduceEqDiff, Nat.reduceAdd, reduceCtorEq, Option.bind_some, Option.map_some, vcM, b1, Int.toNat_natCast, hr, s2])
      refine ⟨oC_flat hsv1, ?_⟩
      have hEb : Ext wj ((wj.alloc (.cells (zc [(1, .int .i64 0), (1, .slice none 0 0)]) 54)).putN wj.heap.size 0 (oC y sv)) := ((Keep.refl _ wj).alloc _).putN _ (by intro hh; exfalso; omega)
      have h9 : ((wj.alloc (.cells (zc [(1, .int .i64 0), (1, .slice none 0 0)]) 54)).putN wj.heap.size 0 (oC y sv)).heap[wj.heap.size]? = some (.cells (oC y sv) 54 (0, 0)) := by
        rw [heap_putN_eq (heap_new _ _ _ rfl), splice_all (by rfl)]
      generalize World.putN _ _ _ _ = wa at hEb h9 ⊢
      generalize wj.heap.size = p9 at h9 ⊢
      have hWa := hWj.grow hEb
      have hsva : Rd wa sv y.script := hsv.ext hEb
      have hv64 : IntKind.u64.wrap y.val = y.val % 18446744073709551616 := wrap_u64 _
      (refine W_at c41_ok ?_; refine ⟨_, rfl, ?_⟩; simp (disch := first | omega | assumption | rfl | (simp only [vcS] <;> omega) | fail) only [↓ptV_l, ↓vcA, vcB, ↓reduceIte, Nat.reduceEqDiff, reduceCtorEq, Option.bind_some, Option.map_some, vcM, h9, c0, hv64])
      refine callV_ret (u64_ok wa p vj _ (y.val % 18446744073709551616) hWa.at' (by omega)) ?_
      intro _ wb hT
      have h9b := hT.at hWa.at' h9 (by decide) (by decide)
      obtain ⟨vb, hWb⟩ := hWa.go hT
      first | (simp (disch := first | omega | assumption | rfl | (simp only [vcS] <;> omega) | fail) only [↓ptV_l, ↓vcA, vcB, ↓vcD, vcE, ↓reduceIte, Nat.reduceEqDiff, Nat.reduceAdd, Nat.reduceMul, Nat.reduceLeDiff, Int.reduceLE, Int.reduceLT, Int.reduceEq, Int.reduceToNat, Int.reduceAdd, Int.reduceSub, Int.reduceMul, Int.reduceNeg, reduceCtorEq, Option.bind_some, Option.map_some, List.length_cons, List.length_nil, vcM, List.getElem?_toArray, List.getElem?_cons_zero, List.getElem?_cons_succ]) | skip
      have hsvb : Rd wb sv y.script := hsvW.ext hWb.ext
      (refine W_at c41_ok ?_; refine ⟨_, rfl, ?_⟩; simp (disch := first | omega | assumption | rfl | (simp only [vcS] <;> omega) | fail) only [↓ptV_l, ↓vcA, vcB, ↓reduceIte, Nat.reduceEqDiff, reduceCtorEq, Option.bind_some, Option.map_some, vcM, h9b, c1])
      refine callV_ret (bytes_ok wb p vb _ sv y.script hWb.at' hsvb (hWb.rd hsvW) (by simp only [List.length_append, lowF_len]; omega)) ?_
      intro _ wc hT
      obtain ⟨vc, hWc⟩ := hWb.go hT
      first | (simp (disch := first | omega | assumption | rfl | (simp only [vcS] <;> omega) | fail) only [↓ptV_l, ↓vcA, vcB, ↓vcD, vcE, ↓reduceIte, Nat.reduceEqDiff, Nat.reduceAdd, Nat.reduceMul, Nat.reduceLeDiff, Int.reduceLE, Int.reduceLT, Int.reduceEq, Int.reduceToNat, Int.reduceAdd, Int.reduceSub, Int.reduceMul, Int.reduceNeg, reduceCtorEq, Option.bind_some, Option.map_some, List.length_cons, List.length_nil, vcM, List.getElem?_toArray, List.getElem?_cons_zero, List.getElem?_cons_succ]) | skip
      (refine W_at c41_ok ?_; refine ⟨_, rfl, ?_⟩; simp (disch := first | omega | assumption | rfl | (simp only [vcS] <;> omega) | fail) only [↓vcA, vcB, ↓reduceIte, Nat.reduceEqDiff, reduceCtorEq, Option.bind_some, hwi])
      (refine W_at c41_ok ?_; refine ⟨_, rfl, ?_⟩; simp (disch := first | omega | assumption | rfl | (simp only [vcS] <;> omega) | fail) only [vcB])
      rw [← ev]
      refine ih (i + 1) wc vc _ (by omega) ?_
      rw [htk, show encO y = lowF 8 (y.val % 18446744073709551616) ++ (sizeF y.script.length ++ y.script) from rfl]
      simpa only [List.append_assoc] using hWc
  exact L2 l.length 0 w v _ (by omega) (by rw [List.take_zero]; exact h)
set_option maxHeartbeats 3200000 in
theorem wit1_ok (w0 w : World) (p b5 : Nat) (v iv ov : Value) (t : TxV) (h : WMid w0 w p v []) (h5 : w0.heap[b5]? = some (.cells (txC t iv ov) 26 (0, 0))) (hI : InsR w0 iv t.ins) (hok : ∀ x ∈ t.ins, x.Ok) (hn : t.ins.length ≤ 100) :
    Calls Try.prog 37 #[.pointer (some ⟨p, 0, none⟩), .pointer (some ⟨b5, 0, none⟩)] w (Ret fun _ w' => ∃ v', WMid w0 w' p v' (t.ins.flatMap plF)) := by
  refine calls_of_cfg c37_ok (Nat.le_of_ble_eq_true rfl) ?_
  simp only [argE_nil, argE_cons, Nat.reduceAdd, Nat.zero_add]
  have hlI := hI.len
  have t1 : (txC t iv ov)[1]? = some iv := rfl
  have h50 := h.ext.at h5 (fun h => h)
  (refine W_at c37_ok ?_; refine ⟨_, rfl, ?_⟩; simp (disch := first | omega | assumption | rfl | (simp only [vcS] <;> omega) | fail) only [↓vcA, vcB, ↓reduceIte, Nat.reduceEqDiff, reduceCtorEq, Option.bind_some, vcM, h50, t1, hlI])
  have L2 : ∀ (k i : Nat) (wj : World) (vj : Value) (tl : Env), i + k = t.ins.length → WMid w0 wj p vj ((t.ins.take i).flatMap plF) →
      W Try.prog (Ret fun _ w' => ∃ v', WMid w0 w' p v' (t.ins.flatMap plF)) 37 6 ((0, .pointer (some ⟨p, 0, none⟩)) :: (6, iv) :: (7, .int .i64 (t.ins.length : Nat)) :: (8, .int .i64 (i : Nat)) :: tl) wj := by
    intro k
    induction k with
    | zero =>
      intro i wj vj tl hi hWj
      obtain rfl : i = t.ins.length := by omega
      rw [List.take_length] at hWj
      have hno : ¬ ((t.ins.length : Nat) : Int) < (t.ins.length : Nat) := by omega
      (refine W_at c37_ok ?_; refine ⟨_, rfl, ?_⟩; simp (disch := first | omega | assumption | rfl | (simp only [vcS] <;> omega) | fail) only [↓vcA, vcB, ↓reduceIte, Nat.reduceEqDiff, reduceCtorEq, Option.bind_some, hno])
      (refine W_at c37_ok ?_; refine ⟨_, rfl, ?_⟩; simp (disch := first | omega | assumption | rfl | (simp only [vcS] <;> omega) | fail) only [↓vcA, vcB, ↓reduceIte, Nat.reduceEqDiff, reduceCtorEq])
      (refine W_at c37_ok ?_; refine ⟨_, rfl, ?_⟩; simp (disch := first | omega | assumption | rfl | (simp only [vcS] <;> omega) | fail) only [↓vcA, vcB, Ret_returned])
      exact ⟨vj, hWj⟩
    | succ k ih =>
      intro i wj vj tl hi hWj
      have hil : i < t.ins.length := by omega
      have hlt : ((i : Nat) : Int) < (t.ins.length : Nat) := by omega
      have b1 : 0 ≤ ((i : Nat) : Int) ∧ ((i : Nat) : Int) < (t.ins.length : Nat) := by omega
      have hwi : IntKind.i64.wrap (((i : Nat) : Int) + 1) = ((i + 1 : Nat) : Int) := wrap_i64 (by omega) (by omega)
      obtain ⟨b, o, c, cs, ev, hr0, hcs, sv, wv, ecs, hsvW, hwvW⟩ := hI.at hil
      have hr := rdO_ext' hWj.ext hr0
      have hsv1 := hsvW.one
      have hwv1 := hwvW.one
      have hok := hok _ (List.getElem_mem hil)
      have htk := take_flat plF hil
      have hbi := plF_len (l := t.ins.take i) (fun x hx => (‹∀ x ∈ t.ins, x.Ok› x (List.mem_of_mem_take hx)).len)
      have hbl : (t.ins.take i).length ≤ 100 := by rw [List.length_take]; omega
      generalize t.ins[i] = y at hsvW hwvW ecs hok htk
      subst ecs
      rw [ev]
      have hpl := hok.len
      have s36 := iC_size hpl sv wv
      (refine W_at c37_ok ?_; refine ⟨_, rfl, ?_⟩; simp (disch := first | omega | assumption | rfl | (simp only [vcS] <;> omega) | fail) only [↓vcA, vcB, ↓reduceIte, Nat.reduceEqDiff, reduceCtorEq, Option.bind_some, hlt])
      (refine W_at c37_ok ?_; refine ⟨_, rfl, ?_⟩; simp (disch := first | omega | assumption | rfl | (simp only [vcS] <;> omega) | fail) only [↓vcA, vcB, ↓reduceIte, Nat.reduceEqDiff, reduceCtorEq])
      (refine W_at c37_ok ?_; refine ⟨_, rfl, ?_⟩; simp (disch := first | omega | assumption | rfl | (simp only [vcS] <;> omega) | fail) only [↓ptV_l, ↓vcA, vcB, ↓reduceIte, Nat.reduceEqDiff, reduceCtorEq, Option.bind_some, Option.map_some, vcM, b1, Int.toNat_natCast, hr, s36])
      refine ⟨iC_flat hsv1 hwv1, by simp [zc, runs], ?_⟩
      have hEb : Ext wj ((wj.alloc (.cells (zc [(32, .int .u8 0), (1, .int .u32 0), (1, .slice none 0 0), (1, .int .u32 0), (1, .slice none 0 0)]) 50)).putN wj.heap.size 0 (iC y sv wv)) := ((Keep.refl _ wj).alloc _).putN _ (by intro hh; exfalso; omega)
      have h7 : ((wj.alloc (.cells (zc [(32, .int .u8 0), (1, .int .u32 0), (1, .slice none 0 0), (1, .int .u32 0), (1, .slice none 0 0)]) 50)).putN wj.heap.size 0 (iC y sv wv)).heap[wj.heap.size]? = some (.cells (iC y sv wv) 50 (0, 0)) := by
        rw [heap_putN_eq (heap_new _ _ _ rfl), splice_all (by rw [s36]; rfl)]
      generalize World.putN _ _ _ _ = wa at hEb h7 ⊢
      generalize wj.heap.size = p7 at h7 ⊢
      have hWa := hWj.grow hEb
      have hrp := rd_pC hpl h7
      (refine W_at c37_ok ?_; refine ⟨_, rfl, ?_⟩; simp (disch := first | omega | assumption | rfl | (simp only [vcS] <;> omega) | fail) only [↓ptV_l, ↓vcA, vcB, ↓reduceIte, Nat.reduceEqDiff, reduceCtorEq, Option.bind_some, Option.map_some, vcM, hrp])
      refine callV_ret (place_ok wa p vj _ y.prev y.idx hWa.at' hpl hok.idx (by omega)) ?_
      intro _ wb hT
      obtain ⟨vb, hWb⟩ := hWa.go hT
      first | (simp (disch := first | omega | assumption | rfl | (simp only [vcS] <;> omega) | fail) only [↓ptV_l, ↓vcA, vcB, ↓vcD, vcE, ↓reduceIte, Nat.reduceEqDiff, Nat.reduceAdd, Nat.reduceMul, Nat.reduceLeDiff, Int.reduceLE, Int.reduceLT, Int.reduceEq, Int.reduceToNat, Int.reduceAdd, Int.reduceSub, Int.reduceMul, Int.reduceNeg, reduceCtorEq, Option.bind_some, Option.map_some, List.length_cons, List.length_nil, vcM, List.getElem?_toArray, List.getElem?_cons_zero, List.getElem?_cons_succ]) | skip
      (refine W_at c37_ok ?_; refine ⟨_, rfl, ?_⟩; simp (disch := first | omega | assumption | rfl | (simp only [vcS] <;> omega) | fail) only [↓vcA, vcB, ↓reduceIte, Nat.reduceEqDiff, reduceCtorEq, Option.bind_some, hwi])
      (refine W_at c37_ok ?_; refine ⟨_, rfl, ?_⟩; simp (disch := first | omega | assumption | rfl | (simp only [vcS] <;> omega) | fail) only [vcB])
      rw [← ev]
      refine ih (i + 1) wb vb _ (by omega) ?_
      rw [htk, show plF y = y.prev ++ lowF 4 y.idx from rfl]
      exact hWb
  exact L2 t.ins.length 0 w v _ (by omega) (by rw [List.take_zero]; exact h)
set_option maxHeartbeats 3200000 in
theorem wit2_ok (w0 w : World) (p b5 : Nat) (v iv ov : Value) (t : TxV) (h : WMid w0 w p v []) (h5 : w0.heap[b5]? = some (.cells (txC t iv ov) 26 (0, 0))) (hI : InsR w0 iv t.ins) (hok : ∀ x ∈ t.ins, x.Ok) (hn : t.ins.length ≤ 100) :
    Calls Try.prog 39 #[.pointer (some ⟨p, 0, none⟩), .pointer (some ⟨b5, 0, none⟩)] w (Ret fun _ w' => ∃ v', WMid w0 w' p v' (t.ins.flatMap sqF)) := by
  refine calls_of_cfg c39_ok (Nat.le_of_ble_eq_true rfl) ?_
  simp only [argE_nil, argE_cons, Nat.reduceAdd, Nat.zero_add]
  have hlI := hI.len
  have t1 : (txC t iv ov)[1]? = some iv := rfl
  have h50 := h.ext.at h5 (fun h => h)
  (refine W_at c39_ok ?_; refine ⟨_, rfl, ?_⟩; simp (disch := first | omega | assumption | rfl | (simp only [vcS] <;> omega) | fail) only [↓vcA, vcB, ↓reduceIte, Nat.reduceEqDiff, reduceCtorEq, Option.bind_some, vcM, h50, t1, hlI])
  have L2 : ∀ (k i : Nat) (wj : World) (vj : Value) (tl : Env), i + k = t.ins.length → WMid w0 wj p vj ((t.ins.take i).flatMap sqF) →
      W Try.prog (Ret fun _ w' => ∃ v', WMid w0 w' p v' (t.ins.flatMap sqF)) 39 6 ((0, .pointer (some ⟨p, 0, none⟩)) :: (6, iv) :: (7, .int .i64 (t.ins.length : Nat)) :: (8, .int .i64 (i : Nat)) :: tl) wj := by
    intro k
    induction k with
    | zero =>
      intro i wj vj tl hi hWj
      obtain rfl : i = t.ins.length := by omega
      rw [List.take_length] at hWj
      have hno : ¬ ((t.ins.length : Nat) : Int) < (t.ins.length : Nat) := by omega
      (refine W_at c39_ok ?_; refine ⟨_, rfl, ?_⟩; simp (disch := first | omega | assumption | rfl | (simp only [vcS] <;> omega) | fail) only [↓vcA, vcB, ↓reduceIte, Nat.reduceEqDiff, reduceCtorEq, Option.bind_some, hno])
      (refine W_at c39_ok ?_; refine ⟨_, rfl, ?_⟩; simp (disch := first | omega | assumption | rfl | (simp only [vcS] <;> omega) | fail) only [↓vcA, vcB, ↓reduceIte, Nat.reduceEqDiff, reduceCtorEq])
      (refine W_at c39_ok ?_; refine ⟨_, rfl, ?_⟩; simp (disch := first | omega | assumption | rfl | (simp only [vcS] <;> omega) | fail) only [↓vcA, vcB, Ret_returned])
      exact ⟨vj, hWj⟩
    | succ k ih =>
      intro i wj vj tl hi hWj
      have hil : i < t.ins.length := by omega
      have hlt : ((i : Nat) : Int) < (t.ins.length : Nat) := by omega
      have b1 : 0 ≤ ((i : Nat) : Int) ∧ ((i : Nat) : Int) < (t.ins.length : Nat) := by omega
      have hwi : IntKind.i64.wrap (((i : Nat) : Int) + 1) = ((i + 1 : Nat) : Int) := wrap_i64 (by omega) (by omega)
      obtain ⟨b, o, c, cs, ev, hr0, hcs, sv, wv, ecs, hsvW, hwvW⟩ := hI.at hil
      have hr := rdO_ext' hWj.ext hr0
      have hsv1 := hsvW.one
      have hwv1 := hwvW.one
      have hok := hok _ (List.getElem_mem hil)
      have htk := take_flat sqF hil
      have hbi := sqF_len (t.ins.take i)
      have hbl : (t.ins.take i).length ≤ 100 := by rw [List.length_take]; omega
      generalize t.ins[i] = y at hsvW hwvW ecs hok htk
      subst ecs
      rw [ev]
      have hpl := hok.len
      have s36 := iC_size hpl sv wv
      have c34 := iC_34 hpl sv wv
      (refine W_at c39_ok ?_; refine ⟨_, rfl, ?_⟩; simp (disch := first | omega | assumption | rfl | (simp only [vcS] <;> omega) | fail) only [↓vcA, vcB, ↓reduceIte, Nat.reduceEqDiff, reduceCtorEq, Option.bind_some, hlt])
      (refine W_at c39_ok ?_; refine ⟨_, rfl, ?_⟩; simp (disch := first | omega | assumption | rfl | (simp only [vcS] <;> omega) | fail) only [↓vcA, vcB, ↓reduceIte, Nat.reduceEqDiff, reduceCtorEq])
      (refine W_at c39_ok ?_; refine ⟨_, rfl, ?_⟩; simp (disch := first | omega | assumption | rfl | (simp only [vcS] <;> omega) | fail) only [↓ptV_l, ↓vcA, vcB, ↓reduceIte, Nat.reduceEqDiff, reduceCtorEq, Option.bind_some, Option.map_some, vcM, b1, Int.toNat_natCast, hr, s36])
      refine ⟨iC_flat hsv1 hwv1, by simp [zc, runs], ?_⟩
      have hEb : Ext wj ((wj.alloc (.cells (zc [(32, .int .u8 0), (1, .int .u32 0), (1, .slice none 0 0), (1, .int .u32 0), (1, .slice none 0 0)]) 50)).putN wj.heap.size 0 (iC y sv wv)) := ((Keep.refl _ wj).alloc _).putN _ (by intro hh; exfalso; omega)
      have h7 : ((wj.alloc (.cells (zc [(32, .int .u8 0), (1, .int .u32 0), (1, .slice none 0 0), (1, .int .u32 0), (1, .slice none 0 0)]) 50)).putN wj.heap.size 0 (iC y sv wv)).heap[wj.heap.size]? = some (.cells (iC y sv wv) 50 (0, 0)) := by
        rw [heap_putN_eq (heap_new _ _ _ rfl), splice_all (by rw [s36]; rfl)]
      generalize World.putN _ _ _ _ = wa at hEb h7 ⊢
      generalize wj.heap.size = p7 at h7 ⊢
      have hWa := hWj.grow hEb
      (refine W_at c39_ok ?_; refine ⟨_, rfl, ?_⟩; simp (disch := first | omega | assumption | rfl | (simp only [vcS] <;> omega) | fail) only [↓ptV_l, ↓vcA, vcB, ↓reduceIte, Nat.reduceEqDiff, reduceCtorEq, Option.bind_some, Option.map_some, vcM, h7, c34])
      refine callV_ret (u32_ok wa p vj _ y.seq hWa.at' (by omega) hok.seq) ?_
      intro _ wb hT
      obtain ⟨vb, hWb⟩ := hWa.go hT
      first | (simp (disch := first | omega | assumption | rfl | (simp only [vcS] <;> omega) | fail) only [↓ptV_l, ↓vcA, vcB, ↓vcD, vcE, ↓reduceIte, Nat.reduceEqDiff, Nat.reduceAdd, Nat.reduceMul, Nat.reduceLeDiff, Int.reduceLE, Int.reduceLT, Int.reduceEq, Int.reduceToNat, Int.reduceAdd, Int.reduceSub, Int.reduceMul, Int.reduceNeg, reduceCtorEq, Option.bind_some, Option.map_some, List.length_cons, List.length_nil, vcM, List.getElem?_toArray, List.getElem?_cons_zero, List.getElem?_cons_succ]) | skip
      (refine W_at c39_ok ?_; refine ⟨_, rfl, ?_⟩; simp (disch := first | omega | assumption | rfl | (simp only [vcS] <;> omega) | fail) only [↓vcA, vcB, ↓reduceIte, Nat.reduceEqDiff, reduceCtorEq, Option.bind_some, hwi])
      (refine W_at c39_ok ?_; refine ⟨_, rfl, ?_⟩; simp (disch := first | omega | assumption | rfl | (simp only [vcS] <;> omega) | fail) only [vcB])
      rw [← ev]
      refine ih (i + 1) wb vb _ (by omega) ?_
      rw [htk, show sqF y = lowF 4 y.seq from rfl]
      exact hWb
  exact L2 t.ins.length 0 w v _ (by omega) (by rw [List.take_zero]; exact h)
set_option maxHeartbeats 1600000 in
theorem wit3_ok (w0 w : World) (p b14 : Nat) (v ov : Value) (l : List TxO) (h : WMid w0 w p v []) (h14 : w0.heap[b14]? = some (.cells #[ov] 23 (0, 0))) (hO : OusR w0 ov l) (hok : ∀ y ∈ l, y.Ok) (hn : l.length ≤ 100) (hs : ∀ y ∈ l, y.script.length ≤ 1000) :
    Calls Try.prog 40 #[.pointer (some ⟨p, 0, none⟩), .pointer (some ⟨b14, 0, none⟩)] w (Ret fun _ w' => ∃ v', WMid w0 w' p v' (l.flatMap encO)) := by
  refine calls_of_cfg c40_ok (Nat.le_of_ble_eq_true rfl) ?_
  simp only [argE_nil, argE_cons, Nat.reduceAdd, Nat.zero_add]
  have h50 := h.ext.at h14 (fun h => h)
  (refine W_at c40_ok ?_; refine ⟨_, rfl, ?_⟩; simp (disch := first | omega | assumption | rfl | (simp only [vcS] <;> omega) | fail) only [↓ptV_l, ↓vcA, vcB, ↓reduceIte, Nat.reduceEqDiff, reduceCtorEq, Option.bind_some, Option.map_some, vcM, List.getElem?_toArray, List.getElem?_cons_zero, h50])
  refine callV_ret (soutputs_ok w0 w p v ov l h hO hok hn hs) ?_
  intro _ w1 hT
  first | (simp (disch := first | omega | assumption | rfl | (simp only [vcS] <;> omega) | fail) only [↓ptV_l, ↓vcA, vcB, ↓vcD, vcE, ↓reduceIte, Nat.reduceEqDiff, Nat.reduceAdd, Nat.reduceMul, Nat.reduceLeDiff, Int.reduceLE, Int.reduceLT, Int.reduceEq, Int.reduceToNat, Int.reduceAdd, Int.reduceSub, Int.reduceMul, Int.reduceNeg, reduceCtorEq, Option.bind_some, Option.map_some, List.length_cons, List.length_nil, vcM, List.getElem?_toArray, List.getElem?_cons_zero, List.getElem?_cons_succ]) | skip
  (refine W_at c40_ok ?_; refine ⟨_, rfl, ?_⟩; simp (disch := first | omega | assumption | rfl | (simp only [vcS] <;> omega) | fail) only [↓vcA, vcB, Ret_returned])
  exact hT
end Go.Proofs
namespace Go.Proofs
open Go.Vc
set_option maxRecDepth 10000

/-- What the digest of the newer way is over. -/
def witB (t : TxV) (x : TxI) (P Q M script : List Int) (value kind : Int) : List Int :=
  lowF 4 (t.ver % 4294967296) ++ P ++ Q ++ plF x ++ (sizeF script.length ++ script) ++ lowF 8 (value % 18446744073709551616) ++ lowF 4 x.seq ++ M ++ lowF 4 t.lock ++ lowF 4 kind
theorem WMid.raw {w0 w : World} {p : Nat} {v : Value} {bs : List Int} (h : WMid w0 w p v bs) {g : Nat} {P : List Int} {T : TypeId} (hg : w0.heap[g]? = some (.cells (bv P).toArray T (0, 0))) (hP : P.length = 32) (hl : bs.length ≤ 90000000) :
    Calls Try.prog 26 #[.pointer (some ⟨p, 0, none⟩), .slice (some ⟨g, 0, none⟩) 32 32] w (Ret fun _ w' => WTo w w' p v (bs ++ P)) := by
  have h1 := arr_rd (bs := P) (h.ext.at hg (fun h => h)) (by rw [hP]; decide)
  rw [hP] at h1
  exact raw_ok w p v bs _ P h.at' h1 (by omega)
set_option maxHeartbeats 3200000 in
theorem wit4_ok (w0 w : World) (p b5 b15 b16 b18 b7 b8 b17 b9 : Nat) (v iv ov sx sv wv : Value) (t : TxV) (x : TxI) (P Q M script : List Int) (value kind : Int) (h : WMid w0 w p v []) (h5 : w0.heap[b5]? = some (.cells (txC t iv ov) 26 (0, 0))) (h15 : w0.heap[b15]? = some (.cells (bv P).toArray 36 (0, 0))) (h16 : w0.heap[b16]? = some (.cells (bv Q).toArray 36 (0, 0)))
    (h18 : w0.heap[b18]? = some (.cells (iC x sv wv) 50 (0, 0))) (h7 : w0.heap[b7]? = some (.cells #[sx] 27 (0, 0))) (h8 : w0.heap[b8]? = some (.cells #[.int .i64 value] 2 (0, 0))) (h17 : w0.heap[b17]? = some (.cells (bv M).toArray 36 (0, 0))) (h9 : w0.heap[b9]? = some (.cells #[.int .u8 kind] 5 (0, 0)))
    (hP : P.length = 32) (hQ : Q.length = 32) (hM : M.length = 32) (hx : x.Ok) (hs : Rd w0 sx script) (hsl : script.length ≤ 1000) (hlk : 0 ≤ t.lock ∧ t.lock ≤ 4294967295) (hk : 0 ≤ kind ∧ kind ≤ 255) :
    Calls Try.prog 42 #[.pointer (some ⟨p, 0, none⟩), .pointer (some ⟨b5, 0, none⟩), .pointer (some ⟨b15, 0, none⟩), .pointer (some ⟨b16, 0, none⟩), .pointer (some ⟨b18, 0, none⟩), .pointer (some ⟨b7, 0, none⟩), .pointer (some ⟨b8, 0, none⟩), .pointer (some ⟨b17, 0, none⟩), .pointer (some ⟨b9, 0, none⟩)] w
      (Ret fun _ w' => ∃ v', WMid w0 w' p v' (witB t x P Q M script value kind)) := by
  refine calls_of_cfg c42_ok (Nat.le_of_ble_eq_true rfl) ?_
  simp only [argE_nil, argE_cons, Nat.reduceAdd, Nat.zero_add]
  have t0 : (txC t iv ov)[0]? = some (.int .i32 t.ver) := rfl
  have t3 : (txC t iv ov)[3]? = some (.int .u32 t.lock) := rfl
  have hv32 : IntKind.u32.wrap t.ver = t.ver % 4294967296 := wrap_u32 _
  have a5 := h.ext.at h5 (fun h => h)
  have hpl := hx.len
  have l4 := lowF_len 4 (t.ver % 4294967296)
  have lpx : (plF x).length = 36 := by simp only [plF, List.length_append, lowF_len, hpl]
  have lsz := (sizeF_len (n := (script.length : Int))).2
  have l8 := lowF_len 8 (value % 18446744073709551616)
  have lsq := lowF_len 4 x.seq
  have llk := lowF_len 4 t.lock
  (refine W_at c42_ok ?_; refine ⟨_, rfl, ?_⟩; simp (disch := first | omega | assumption | rfl | (simp only [vcS] <;> omega) | fail) only [↓ptV_l, ↓vcA, vcB, ↓reduceIte, Nat.reduceEqDiff, reduceCtorEq, Option.bind_some, Option.map_some, vcM, a5, t0, hv32])
  refine callV_ret (u32_ok w p v [] (t.ver % 4294967296) h.at' (by simp) (by omega)) ?_
  intro _ w1 hT
  obtain ⟨v1, hW1⟩ := h.go hT
  first | (simp (disch := first | omega | assumption | rfl | (simp only [vcS] <;> omega) | fail) only [↓ptV_l, ↓vcA, vcB, ↓vcD, vcE, ↓reduceIte, Nat.reduceEqDiff, Nat.reduceAdd, Nat.reduceMul, Nat.reduceLeDiff, Int.reduceLE, Int.reduceLT, Int.reduceEq, Int.reduceToNat, Int.reduceAdd, Int.reduceSub, Int.reduceMul, Int.reduceNeg, reduceCtorEq, Option.bind_some, Option.map_some, List.length_cons, List.length_nil, vcM, List.getElem?_toArray, List.getElem?_cons_zero, List.getElem?_cons_succ]) | skip
  rw [List.nil_append] at hW1
  (refine W_at c42_ok ?_; refine ⟨_, rfl, ?_⟩; simp (disch := first | omega | assumption | rfl | (simp only [vcS] <;> omega) | fail) only [↓ptV_l, ↓vcA, vcB, ↓reduceIte, Nat.reduceEqDiff, reduceCtorEq, Option.bind_some, Option.map_some, Nat.sub_zero])
  refine callV_ret (hW1.raw h15 hP (by omega)) ?_
  intro _ w2 hT
  obtain ⟨v2, hW2⟩ := hW1.go hT
  first | (simp (disch := first | omega | assumption | rfl | (simp only [vcS] <;> omega) | fail) only [↓ptV_l, ↓vcA, vcB, ↓vcD, vcE, ↓reduceIte, Nat.reduceEqDiff, Nat.reduceAdd, Nat.reduceMul, Nat.reduceLeDiff, Int.reduceLE, Int.reduceLT, Int.reduceEq, Int.reduceToNat, Int.reduceAdd, Int.reduceSub, Int.reduceMul, Int.reduceNeg, reduceCtorEq, Option.bind_some, Option.map_some, List.length_cons, List.length_nil, vcM, List.getElem?_toArray, List.getElem?_cons_zero, List.getElem?_cons_succ]) | skip
  (refine W_at c42_ok ?_; refine ⟨_, rfl, ?_⟩; simp (disch := first | omega | assumption | rfl | (simp only [vcS] <;> omega) | fail) only [↓ptV_l, ↓vcA, vcB, ↓reduceIte, Nat.reduceEqDiff, reduceCtorEq, Option.bind_some, Option.map_some, Nat.sub_zero])
  refine callV_ret (hW2.raw h16 hQ (by simp only [List.length_append]; omega)) ?_
  intro _ w3 hT
  obtain ⟨v3, hW3⟩ := hW2.go hT
  first | (simp (disch := first | omega | assumption | rfl | (simp only [vcS] <;> omega) | fail) only [↓ptV_l, ↓vcA, vcB, ↓vcD, vcE, ↓reduceIte, Nat.reduceEqDiff, Nat.reduceAdd, Nat.reduceMul, Nat.reduceLeDiff, Int.reduceLE, Int.reduceLT, Int.reduceEq, Int.reduceToNat, Int.reduceAdd, Int.reduceSub, Int.reduceMul, Int.reduceNeg, reduceCtorEq, Option.bind_some, Option.map_some, List.length_cons, List.length_nil, vcM, List.getElem?_toArray, List.getElem?_cons_zero, List.getElem?_cons_succ]) | skip
  have r18 := rd_pC hpl (hW3.ext.at h18 (fun h => h))
  (refine W_at c42_ok ?_; refine ⟨_, rfl, ?_⟩; simp (disch := first | omega | assumption | rfl | (simp only [vcS] <;> omega) | fail) only [↓ptV_l, ↓vcA, vcB, ↓reduceIte, Nat.reduceEqDiff, reduceCtorEq, Option.bind_some, Option.map_some, vcM, r18])
  refine callV_ret (place_ok w3 p v3 _ x.prev x.idx hW3.at' hpl hx.idx (by simp only [List.length_append]; omega)) ?_
  intro _ w4 hT
  obtain ⟨v4, hW4⟩ := hW3.go hT
  first | (simp (disch := first | omega | assumption | rfl | (simp only [vcS] <;> omega) | fail) only [↓ptV_l, ↓vcA, vcB, ↓vcD, vcE, ↓reduceIte, Nat.reduceEqDiff, Nat.reduceAdd, Nat.reduceMul, Nat.reduceLeDiff, Int.reduceLE, Int.reduceLT, Int.reduceEq, Int.reduceToNat, Int.reduceAdd, Int.reduceSub, Int.reduceMul, Int.reduceNeg, reduceCtorEq, Option.bind_some, Option.map_some, List.length_cons, List.length_nil, vcM, List.getElem?_toArray, List.getElem?_cons_zero, List.getElem?_cons_succ]) | skip
  have a7 := hW4.ext.at h7 (fun h => h)
  have e4 : x.prev ++ lowF 4 x.idx = plF x := rfl
  rw [e4] at hW4
  (refine W_at c42_ok ?_; refine ⟨_, rfl, ?_⟩; simp (disch := first | omega | assumption | rfl | (simp only [vcS] <;> omega) | fail) only [↓ptV_l, ↓vcA, vcB, ↓reduceIte, Nat.reduceEqDiff, reduceCtorEq, Option.bind_some, Option.map_some, vcM, List.getElem?_toArray, List.getElem?_cons_zero, a7])
  refine callV_ret (bytes_ok w4 p v4 _ sx script hW4.at' (hs.ext hW4.ext) (hW4.rd hs) (by simp only [List.length_append]; omega)) ?_
  intro _ w5 hT
  obtain ⟨v5, hW5⟩ := hW4.go hT
  first | (simp (disch := first | omega | assumption | rfl | (simp only [vcS] <;> omega) | fail) only [↓ptV_l, ↓vcA, vcB, ↓vcD, vcE, ↓reduceIte, Nat.reduceEqDiff, Nat.reduceAdd, Nat.reduceMul, Nat.reduceLeDiff, Int.reduceLE, Int.reduceLT, Int.reduceEq, Int.reduceToNat, Int.reduceAdd, Int.reduceSub, Int.reduceMul, Int.reduceNeg, reduceCtorEq, Option.bind_some, Option.map_some, List.length_cons, List.length_nil, vcM, List.getElem?_toArray, List.getElem?_cons_zero, List.getElem?_cons_succ]) | skip
  have a8 := hW5.ext.at h8 (fun h => h)
  have hv64 : IntKind.u64.wrap value = value % 18446744073709551616 := wrap_u64 _
  (refine W_at c42_ok ?_; refine ⟨_, rfl, ?_⟩; simp (disch := first | omega | assumption | rfl | (simp only [vcS] <;> omega) | fail) only [↓ptV_l, ↓vcA, vcB, ↓reduceIte, Nat.reduceEqDiff, reduceCtorEq, Option.bind_some, Option.map_some, vcM, List.getElem?_toArray, List.getElem?_cons_zero, a8, hv64])
  refine callV_ret (u64_ok w5 p v5 _ (value % 18446744073709551616) hW5.at' (by simp only [List.length_append]; omega)) ?_
  intro _ w6 hT
  obtain ⟨v6, hW6⟩ := hW5.go hT
  first | (simp (disch := first | omega | assumption | rfl | (simp only [vcS] <;> omega) | fail) only [↓ptV_l, ↓vcA, vcB, ↓vcD, vcE, ↓reduceIte, Nat.reduceEqDiff, Nat.reduceAdd, Nat.reduceMul, Nat.reduceLeDiff, Int.reduceLE, Int.reduceLT, Int.reduceEq, Int.reduceToNat, Int.reduceAdd, Int.reduceSub, Int.reduceMul, Int.reduceNeg, reduceCtorEq, Option.bind_some, Option.map_some, List.length_cons, List.length_nil, vcM, List.getElem?_toArray, List.getElem?_cons_zero, List.getElem?_cons_succ]) | skip
  have a18 := hW6.ext.at h18 (fun h => h)
  have c34 := iC_34 hpl sv wv
  (refine W_at c42_ok ?_; refine ⟨_, rfl, ?_⟩; simp (disch := first | omega | assumption | rfl | (simp only [vcS] <;> omega) | fail) only [↓ptV_l, ↓vcA, vcB, ↓reduceIte, Nat.reduceEqDiff, reduceCtorEq, Option.bind_some, Option.map_some, vcM, a18, c34])
  refine callV_ret (u32_ok w6 p v6 _ x.seq hW6.at' (by simp only [List.length_append]; omega) hx.seq) ?_
  intro _ w7 hT
  obtain ⟨v7, hW7⟩ := hW6.go hT
  first | (simp (disch := first | omega | assumption | rfl | (simp only [vcS] <;> omega) | fail) only [↓ptV_l, ↓vcA, vcB, ↓vcD, vcE, ↓reduceIte, Nat.reduceEqDiff, Nat.reduceAdd, Nat.reduceMul, Nat.reduceLeDiff, Int.reduceLE, Int.reduceLT, Int.reduceEq, Int.reduceToNat, Int.reduceAdd, Int.reduceSub, Int.reduceMul, Int.reduceNeg, reduceCtorEq, Option.bind_some, Option.map_some, List.length_cons, List.length_nil, vcM, List.getElem?_toArray, List.getElem?_cons_zero, List.getElem?_cons_succ]) | skip
  (refine W_at c42_ok ?_; refine ⟨_, rfl, ?_⟩; simp (disch := first | omega | assumption | rfl | (simp only [vcS] <;> omega) | fail) only [↓ptV_l, ↓vcA, vcB, ↓reduceIte, Nat.reduceEqDiff, reduceCtorEq, Option.bind_some, Option.map_some, Nat.sub_zero])
  refine callV_ret (hW7.raw h17 hM (by simp only [List.length_append]; omega)) ?_
  intro _ w8 hT
  obtain ⟨v8, hW8⟩ := hW7.go hT
  first | (simp (disch := first | omega | assumption | rfl | (simp only [vcS] <;> omega) | fail) only [↓ptV_l, ↓vcA, vcB, ↓vcD, vcE, ↓reduceIte, Nat.reduceEqDiff, Nat.reduceAdd, Nat.reduceMul, Nat.reduceLeDiff, Int.reduceLE, Int.reduceLT, Int.reduceEq, Int.reduceToNat, Int.reduceAdd, Int.reduceSub, Int.reduceMul, Int.reduceNeg, reduceCtorEq, Option.bind_some, Option.map_some, List.length_cons, List.length_nil, vcM, List.getElem?_toArray, List.getElem?_cons_zero, List.getElem?_cons_succ]) | skip
  have a52 := hW8.ext.at h5 (fun h => h)
  (refine W_at c42_ok ?_; refine ⟨_, rfl, ?_⟩; simp (disch := first | omega | assumption | rfl | (simp only [vcS] <;> omega) | fail) only [↓ptV_l, ↓vcA, vcB, ↓reduceIte, Nat.reduceEqDiff, reduceCtorEq, Option.bind_some, Option.map_some, vcM, a52, t3])
  refine callV_ret (u32_ok w8 p v8 _ t.lock hW8.at' (by simp only [List.length_append]; omega) hlk) ?_
  intro _ w9 hT
  obtain ⟨v9, hW9⟩ := hW8.go hT
  first | (simp (disch := first | omega | assumption | rfl | (simp only [vcS] <;> omega) | fail) only [↓ptV_l, ↓vcA, vcB, ↓vcD, vcE, ↓reduceIte, Nat.reduceEqDiff, Nat.reduceAdd, Nat.reduceMul, Nat.reduceLeDiff, Int.reduceLE, Int.reduceLT, Int.reduceEq, Int.reduceToNat, Int.reduceAdd, Int.reduceSub, Int.reduceMul, Int.reduceNeg, reduceCtorEq, Option.bind_some, Option.map_some, List.length_cons, List.length_nil, vcM, List.getElem?_toArray, List.getElem?_cons_zero, List.getElem?_cons_succ]) | skip
  have a9 := hW9.ext.at h9 (fun h => h)
  have wk : IntKind.u32.wrap kind = kind := by rw [wrap_u32]; omega
  (refine W_at c42_ok ?_; refine ⟨_, rfl, ?_⟩; simp (disch := first | omega | assumption | rfl | (simp only [vcS] <;> omega) | fail) only [↓ptV_l, ↓vcA, vcB, ↓reduceIte, Nat.reduceEqDiff, reduceCtorEq, Option.bind_some, Option.map_some, vcM, List.getElem?_toArray, List.getElem?_cons_zero, a9, wk])
  refine callV_ret (u32_ok w9 p v9 _ kind hW9.at' (by simp only [List.length_append]; omega) (by omega)) ?_
  intro _ wA hT
  obtain ⟨vA, hWA⟩ := hW9.go hT
  first | (simp (disch := first | omega | assumption | rfl | (simp only [vcS] <;> omega) | fail) only [↓ptV_l, ↓vcA, vcB, ↓vcD, vcE, ↓reduceIte, Nat.reduceEqDiff, Nat.reduceAdd, Nat.reduceMul, Nat.reduceLeDiff, Int.reduceLE, Int.reduceLT, Int.reduceEq, Int.reduceToNat, Int.reduceAdd, Int.reduceSub, Int.reduceMul, Int.reduceNeg, reduceCtorEq, Option.bind_some, Option.map_some, List.length_cons, List.length_nil, vcM, List.getElem?_toArray, List.getElem?_cons_zero, List.getElem?_cons_succ]) | skip
  (refine W_at c42_ok ?_; refine ⟨_, rfl, ?_⟩; simp (disch := first | omega | assumption | rfl | (simp only [vcS] <;> omega) | fail) only [↓vcA, vcB, Ret_returned])
  exact ⟨vA, hWA⟩
theorem witB_byt {t : TxV} {x : TxI} {P Q M script : List Int} {value kind : Int} (hx : x.Ok) (hP : byt P) (hQ : byt Q) (hM : byt M) (hs : byt script) : byt (witB t x P Q M script value kind) := by
  unfold witB plF
  exact byt_app (byt_app (byt_app (byt_app (byt_app (byt_app (byt_app (byt_app (byt_app (lowF_byt _ _) hP) hQ) (byt_app hx.prev (lowF_byt _ _))) (byt_app (sizeF_byt' (by omega)) hs)) (lowF_byt _ _)) (lowF_byt _ _)) hM) (lowF_byt _ _)) (lowF_byt _ _)
theorem witB_len {t : TxV} {x : TxI} {P Q M script : List Int} {value kind : Int} (hx : x.Ok) (hP : P.length = 32) (hQ : Q.length = 32) (hM : M.length = 32) (hs : script.length ≤ 1000) : (witB t x P Q M script value kind).length ≤ 2000 := by
  have lsz := (sizeF_len (n := (script.length : Int))).2
  simp only [witB, plF, List.length_append, lowF_len, hx.len, hP, hQ, hM]; omega
end Go.Proofs
namespace Go.Proofs
open Go.Vc
set_option maxRecDepth 10000

structure WB (w wj : World) (b5 b7 b8 b9 b10 : Nat) (t : TxV) (iv ov sx : Value) (value kind : Int) : Prop where
  ext : Ext w wj
  lo : w.heap.size ≤ b10
  h5 : wj.heap[b5]? = some (.cells (txC t iv ov) 26 (0, 0))
  h7 : wj.heap[b7]? = some (.cells #[sx] 27 (0, 0))
  h8 : wj.heap[b8]? = some (.cells #[.int .i64 value] 2 (0, 0))
  h9 : wj.heap[b9]? = some (.cells #[.int .u8 kind] 5 (0, 0))
  h10 : wj.heap[b10]? = some (.cells (bv zeroD).toArray 36 (0, 0))
theorem WB.go {w wj wk : World} {b5 b7 b8 b9 b10 : Nat} {t : TxV} {iv ov sx : Value} {value kind : Int} (h : WB w wj b5 b7 b8 b9 b10 t iv ov sx value kind) (k : Ext wj wk) : WB w wk b5 b7 b8 b9 b10 t iv ov sx value kind :=
  ⟨h.ext.ext k, h.lo, k.at h.h5 (fun h => h), k.at h.h7 (fun h => h), k.at h.h8 (fun h => h), k.at h.h9 (fun h => h), k.at h.h10 (fun h => h)⟩
/-- The digest of the newer way, plainly. -/
def witP (t : TxV) (kind : Int) : List Int := if kind < 128 then dblF (t.ins.flatMap plF) else zeroD
def witQ (t : TxV) (kind : Int) : List Int := if kind < 128 ∧ kind % 32 ≠ 2 ∧ kind % 32 ≠ 3 then dblF (t.ins.flatMap sqF) else zeroD
def witS (t : TxV) (n : Nat) (kind : Int) : List TxO := if kind % 32 = 3 ∧ n < t.outs.length then (t.outs.drop n).take 1 else t.outs
def witM (t : TxV) (n : Nat) (kind : Int) : List Int := if kind % 32 ≠ 2 ∧ kind % 32 ≠ 3 ∨ kind % 32 = 3 ∧ n < t.outs.length then dblF ((witS t n kind).flatMap encO) else zeroD
def witF (t : TxV) (i : Int) (script : List Int) (value kind : Int) : List Int :=
  if h : 0 ≤ i ∧ i.toNat < t.ins.length then dblF (witB t (t.ins[i.toNat]'h.2) (witP t kind) (witQ t kind) (witM t i.toNat kind) script value kind) else oneD
theorem zeroD_len : zeroD.length = 32 := rfl
theorem zeroD_byt : byt zeroD := by
  intro x hx
  have := List.eq_of_mem_replicate hx
  omega
theorem ite_dbl {c : Prop} [Decidable c] (m : List Int) : (if c then dblF m else zeroD).length = 32 ∧ byt (if c then dblF m else zeroD) := by
  split
  · exact ⟨dblF_len _, dblF_byt _⟩
  · exact ⟨zeroD_len, zeroD_byt⟩
set_option maxHeartbeats 3200000 in
theorem wit_2 (w wj : World) (b5 b7 b8 b9 b10 b15 b16 b17 b18 : Nat) (t : TxV) (iv ov sx sv wv : Value) (value kind : Int) (x : TxI) (P Q M script : List Int) (hB : WB w wj b5 b7 b8 b9 b10 t iv ov sx value kind) (h15 : wj.heap[b15]? = some (.cells (bv P).toArray 36 (0, 0))) (h16 : wj.heap[b16]? = some (.cells (bv Q).toArray 36 (0, 0)))
    (h18 : wj.heap[b18]? = some (.cells (iC x sv wv) 50 (0, 0))) (h17 : wj.heap[b17]? = some (.cells (bv M).toArray 36 (0, 0)))
    (hP : P.length = 32) (hQ : Q.length = 32) (hM : M.length = 32) (bP : byt P) (bQ : byt Q) (bM : byt M) (hx : x.Ok) (hs : Rd w sx script) (hsb : byt script) (hsl : script.length ≤ 1000) (hlk : 0 ≤ t.lock ∧ t.lock ≤ 4294967295) (hk : 0 ≤ kind ∧ kind ≤ 255) (tl : Env) :
    W Try.prog (Ret fun u w' => u = .agg (bv (dblF (witB t x P Q M script value kind))).toArray ∧ Ext w w') 19 2
      ((5, .pointer (some ⟨b5, 0, none⟩)) :: (7, .pointer (some ⟨b7, 0, none⟩)) :: (8, .pointer (some ⟨b8, 0, none⟩)) :: (9, .pointer (some ⟨b9, 0, none⟩)) :: (10, .pointer (some ⟨b10, 0, none⟩)) :: (15, .pointer (some ⟨b15, 0, none⟩)) :: (16, .pointer (some ⟨b16, 0, none⟩)) :: (17, .pointer (some ⟨b17, 0, none⟩)) :: (18, .pointer (some ⟨b18, 0, none⟩)) :: tl) wj := by
  have l1 := witB_len (t := t) (value := value) (kind := kind) hx hP hQ hM hsl
  (refine W_at c19_ok ?_; refine ⟨_, rfl, ?_⟩; simp (disch := first | omega | assumption | rfl | (simp only [vcS] <;> omega) | fail) only [↓ptV_l, ↓vcA, vcB, vcE, ↓reduceIte, Nat.reduceEqDiff, Option.bind_some, Option.map_some])
  refine callV_ret (over_ok wj true 42 #[.pointer (some ⟨b5, 0, none⟩), .pointer (some ⟨b15, 0, none⟩), .pointer (some ⟨b16, 0, none⟩), .pointer (some ⟨b18, 0, none⟩), .pointer (some ⟨b7, 0, none⟩), .pointer (some ⟨b8, 0, none⟩), .pointer (some ⟨b17, 0, none⟩), .pointer (some ⟨b9, 0, none⟩)] (by kernel_rfl) (witB t x P Q M script value kind) (witB_byt hx bP bQ bM hsb) (by omega) fun w0 w1 p hE hW => ?_) ?_
  · have hB0 := hB.go hE
    exact wit4_ok w0 w1 p b5 b15 b16 b18 b7 b8 b17 b9 _ iv ov sx sv wv t x P Q M script value kind hW hB0.h5 (hE.at h15 (fun h => h)) (hE.at h16 (fun h => h)) (hE.at h18 (fun h => h)) hB0.h7 hB0.h8 (hE.at h17 (fun h => h)) hB0.h9 hP hQ hM hx (hs.ext hB0.ext) hsl hlk hk
  · rintro _ w5 ⟨rfl, e5⟩
    have hB5 := hB.go e5
    rw [if_pos rfl]
    have h85 := hB5.h10
    have lD := dblF_len (witB t x P Q M script value kind)
    generalize dblF (witB t x P Q M script value kind) = D at *
    have s32 : (bv D).toArray.size = 32 := by rw [bva_size, lD]
    have z32 : (bv zeroD).toArray.size = 32 := rfl
    have o32 : okO (some (.cells (bv zeroD).toArray 36 (0, 0))) 0 32 = True := by simp only [okO, z32]; simp
    first | (simp (disch := first | omega | assumption | rfl | (simp only [vcS] <;> omega) | fail) only [↓vcA, vcB, vcM, h85, s32, o32]) | skip
    refine ⟨bv_flat _, ?_⟩
    have d9 : (w5.putN b10 0 (bv D).toArray).heap[b10]? = some (.cells (bv D).toArray 36 (0, 0)) := by
      rw [heap_putN_eq h85, splice_all (by rw [s32]; rfl)]
    have hr32 : rdO (some (.cells (bv D).toArray 36 (0, 0))) 0 32 = some (bv D).toArray := rdO_all _ _ _ _ s32
    have hlo := hB.lo
    (refine W_at c19_ok ?_; refine ⟨_, rfl, ?_⟩; simp (disch := first | omega | assumption | rfl | (simp only [vcS] <;> omega) | fail) only [↓vcA, vcB, ↓reduceIte, Option.bind_some, Option.map_some, vcM, d9, hr32, Ret_returned])
    exact hB5.ext.trans ((Keep.refl (fun g => g = b10) w5).putN _ fun _ => rfl) fun g hg e => by omega
theorem ListR.cut1 {α : Type} {R : World → Array Value → α → Prop} {size n c : Nat} {w : World} {q : Option Addr} {l : List α} (h : ListR R size w (.slice q n c) l) {k : Nat} (hk : k < l.length) : ListR R size w (.slice (advA size q c k) (k + 1 - k) (c - k)) ((l.drop k).take 1) := by
  obtain ⟨b, o, c', cs, e, hr, hc, hR⟩ := h.at hk
  obtain ⟨_, _, _, _, ⟨q', c2, e2, hc2⟩, hm, _⟩ := h
  injection e with e3 e4 e5
  injection e2 with e6 e7 e8
  subst e3 e5
  have hcl : l.length ≤ c := by omega
  have hne : ¬ c = k := by omega
  have hl1 : ((l.drop k).take 1).length = 1 := by rw [List.length_take, List.length_drop]; omega
  have ha : advA size (some ⟨b, o, none⟩) c k = some ⟨b, o + k * size, none⟩ := by
    unfold advA
    rw [if_neg hne]
    simp only [Option.map_some, Addr.add]
    split
    · rename_i h0; rw [h0]; rfl
    · rfl
  rw [ha, show k + 1 - k = 1 by omega]
  refine ⟨[cs], by rw [hl1]; rfl, fun x hx => by simp at hx; subst hx; exact hc, ?_, ⟨_, _, by rw [hl1], by omega⟩, by rw [hl1]; decide, fun i a b' => ?_⟩
  · simp only [rdS]
    rw [if_neg (by omega), Nat.one_mul, rdN_heap, hr]
    simp
  · have hi : i = 0 := by simp at a; exact a
    subst hi
    simpa using hR
set_option maxHeartbeats 3200000 in
theorem wit_3 (w wj : World) (b5 b7 b8 b9 b10 b15 b16 b17 : Nat) (t : TxV) (iv ov sx : Value) (value kind : Int) (n : Nat) (hn : n < t.ins.length) (P Q M script : List Int) (hB : WB w wj b5 b7 b8 b9 b10 t iv ov sx value kind) (h15 : wj.heap[b15]? = some (.cells (bv P).toArray 36 (0, 0))) (h16 : wj.heap[b16]? = some (.cells (bv Q).toArray 36 (0, 0)))
    (h17 : wj.heap[b17]? = some (.cells (bv M).toArray 36 (0, 0))) (hI : InsR w iv t.ins) (hok : ∀ x ∈ t.ins, x.Ok)
    (hP : P.length = 32) (hQ : Q.length = 32) (hM : M.length = 32) (bP : byt P) (bQ : byt Q) (bM : byt M) (hs : Rd w sx script) (hsb : byt script) (hsl : script.length ≤ 1000) (hlk : 0 ≤ t.lock ∧ t.lock ≤ 4294967295) (hk : 0 ≤ kind ∧ kind ≤ 255) (tl : Env) :
    W Try.prog (Ret fun u w' => u = .agg (bv (dblF (witB t t.ins[n] P Q M script value kind))).toArray ∧ Ext w w') 19 3
      ((1, .int .i64 (n : Nat)) :: (5, .pointer (some ⟨b5, 0, none⟩)) :: (7, .pointer (some ⟨b7, 0, none⟩)) :: (8, .pointer (some ⟨b8, 0, none⟩)) :: (9, .pointer (some ⟨b9, 0, none⟩)) :: (10, .pointer (some ⟨b10, 0, none⟩)) :: (15, .pointer (some ⟨b15, 0, none⟩)) :: (16, .pointer (some ⟨b16, 0, none⟩)) :: (17, .pointer (some ⟨b17, 0, none⟩)) :: tl) wj := by
  obtain ⟨b, o, c, cs, ev, hr0, hcs, sv, wv, ecs, hsvW, hwvW⟩ := hI.at hn
  have hr := rdO_ext' hB.ext hr0
  have hsv1 := hsvW.one
  have hwv1 := hwvW.one
  have hx := hok _ (List.getElem_mem hn)
  have b1 : 0 ≤ ((n : Nat) : Int) ∧ ((n : Nat) : Int) < (t.ins.length : Nat) := by omega
  generalize t.ins[n] = x at hsvW hwvW ecs hx ⊢
  subst ecs
  have hB5 := hB.h5
  rw [ev] at hB5
  have t1 : (txC t (.slice (some ⟨b, o, none⟩) t.ins.length c) ov)[1]? = some (.slice (some ⟨b, o, none⟩) t.ins.length c) := rfl
  have s36 := iC_size hx.len sv wv
  (refine W_at c19_ok ?_; refine ⟨_, rfl, ?_⟩; simp (disch := first | omega | assumption | rfl | (simp only [vcS] <;> omega) | fail) only [↓ptV_l, ↓vcA, vcB, ↓reduceIte, Nat.reduceEqDiff, Option.bind_some, Option.map_some, vcM, hB5, t1, b1, Int.toNat_natCast, hr, s36])
  refine ⟨iC_flat hsv1 hwv1, by simp [zc, runs], ?_⟩
  have hEb : Ext wj ((wj.alloc (.cells (zc [(32, .int .u8 0), (1, .int .u32 0), (1, .slice none 0 0), (1, .int .u32 0), (1, .slice none 0 0)]) 50)).putN wj.heap.size 0 (iC x sv wv)) := ((Keep.refl _ wj).alloc _).putN _ (by intro hh; exfalso; omega)
  have h18 : ((wj.alloc (.cells (zc [(32, .int .u8 0), (1, .int .u32 0), (1, .slice none 0 0), (1, .int .u32 0), (1, .slice none 0 0)]) 50)).putN wj.heap.size 0 (iC x sv wv)).heap[wj.heap.size]? = some (.cells (iC x sv wv) 50 (0, 0)) := by
    rw [heap_putN_eq (heap_new _ _ _ rfl), splice_all (by rw [s36]; rfl)]
  generalize World.putN _ _ _ _ = wa at hEb h18 ⊢
  generalize wj.heap.size = b18 at h18 ⊢
  exact wit_2 w wa b5 b7 b8 b9 b10 b15 b16 b17 b18 t iv ov sx sv wv value kind x P Q M script (hB.go hEb) (hEb.at h15 (fun h => h)) (hEb.at h16 (fun h => h)) h18 (hEb.at h17 (fun h => h)) hP hQ hM bP bQ bM hx hs hsb hsl hlk hk _
/-- A digest is put where it stays. -/
theorem put_new {wj : World} {T : TypeId} {D : List Int} (hD : D.length = 32) :
    Ext wj ((wj.alloc (.cells (zc [(32, .int .u8 0)]) T)).putN wj.heap.size 0 (bv D).toArray) ∧ ((wj.alloc (.cells (zc [(32, .int .u8 0)]) T)).putN wj.heap.size 0 (bv D).toArray).heap[wj.heap.size]? = some (.cells (bv D).toArray T (0, 0)) :=
  ⟨((Keep.refl _ wj).alloc _).putN _ (by intro hh; exfalso; omega), by rw [heap_putN_eq (heap_new _ _ _ rfl), splice_all (by rw [bva_size, hD]; rfl)]⟩
set_option maxHeartbeats 3200000 in
theorem wit_4 (w wj : World) (b5 b7 b8 b9 b10 b14 b15 b16 : Nat) (t : TxV) (iv ov so sx : Value) (value kind : Int) (n : Nat) (hn : n < t.ins.length) (P Q script : List Int) (hB : WB w wj b5 b7 b8 b9 b10 t iv ov sx value kind) (h15 : wj.heap[b15]? = some (.cells (bv P).toArray 36 (0, 0))) (h16 : wj.heap[b16]? = some (.cells (bv Q).toArray 36 (0, 0)))
    (h14 : wj.heap[b14]? = some (.cells #[so] 23 (0, 0))) (hS : OusR w so (witS t n kind)) (hT : TxR w iv ov t) (hok : t.Ok) (hf : t.Few 100 1000)
    (hP : P.length = 32) (hQ : Q.length = 32) (bP : byt P) (bQ : byt Q) (hs : Rd w sx script) (hsb : byt script) (hsl : script.length ≤ 1000) (hk : 0 ≤ kind ∧ kind ≤ 255) (tl : Env) :
    W Try.prog (Ret fun u w' => u = .agg (bv (dblF (witB t t.ins[n] P Q (witM t n kind) script value kind))).toArray ∧ Ext w w') 19 4
      ((1, .int .i64 (n : Nat)) :: (5, .pointer (some ⟨b5, 0, none⟩)) :: (7, .pointer (some ⟨b7, 0, none⟩)) :: (8, .pointer (some ⟨b8, 0, none⟩)) :: (9, .pointer (some ⟨b9, 0, none⟩)) :: (10, .pointer (some ⟨b10, 0, none⟩)) :: (11, .int .u8 (kind % 32)) :: (13, .bool (decide (kind % 32 ≠ 2 ∧ kind % 32 ≠ 3))) :: (14, .pointer (some ⟨b14, 0, none⟩)) :: (15, .pointer (some ⟨b15, 0, none⟩)) :: (16, .pointer (some ⟨b16, 0, none⟩)) :: tl) wj := by
  have hB5 := hB.h5
  have t2 : (txC t iv ov)[2]? = some ov := rfl
  have hlo := ListR.len hT.outs
  have hSok : ∀ y ∈ witS t n kind, y ∈ t.outs := by
    intro y hy; unfold witS at hy; split at hy
    · exact List.mem_of_mem_drop (List.mem_of_mem_take hy)
    · exact hy
  have hSl : (witS t n kind).length ≤ 100 := by
    have := hf.outs
    unfold witS; split
    · rw [List.length_take]; omega
    · exact this
  have hfl := flatO_len (l := witS t n kind) (m := 1000) (fun y hy => hf.oscr y (hSok y hy))
  have key : ∀ is : Bool, (is = true ↔ (kind % 32 ≠ 2 ∧ kind % 32 ≠ 3 ∨ kind % 32 = 3 ∧ n < t.outs.length)) → Calls Try.prog 36 #[.bool is, .func (.func 40) #[] #[.pointer (some ⟨b14, 0, none⟩)]] wj (Ret fun u wk => u = .agg (bv (witM t n kind)).toArray ∧ Ext wj wk) := by
    intro is his
    have h0 := over_ok wj is 40 #[.pointer (some ⟨b14, 0, none⟩)] (by kernel_rfl) ((witS t n kind).flatMap encO) (flat_byt fun y hy => byt_app (lowF_byt _ _) (byt_app (sizeF_byt' (by omega)) (hok.outs y (hSok y hy)).script)) (by omega) fun w0 w1 p hE hW => wit3_ok w0 w1 p b14 _ so _ hW (hE.at h14 (fun h => h)) (ListR.ext hS (hB.ext.ext hE) fun _ _ h => h.ext (hB.ext.ext hE)) (fun y hy => hok.outs y (hSok y hy)) hSl (fun y hy => hf.oscr y (hSok y hy))
    have e : (if is = true then dblF ((witS t n kind).flatMap encO) else zeroD) = witM t n kind := by
      unfold witM
      by_cases hc : kind % 32 ≠ 2 ∧ kind % 32 ≠ 3 ∨ kind % 32 = 3 ∧ n < t.outs.length
      · rw [if_pos hc, if_pos (his.2 hc)]
      · rw [if_neg hc, if_neg fun h => hc (his.1 h)]
    rw [e] at h0
    exact h0
  have hMl := ite_dbl (c := kind % 32 ≠ 2 ∧ kind % 32 ≠ 3 ∨ kind % 32 = 3 ∧ n < t.outs.length) ((witS t n kind).flatMap encO)
  have fin : ∀ wk, Ext wj wk → ∀ tl, W Try.prog (Ret fun u w' => u = .agg (bv (dblF (witB t t.ins[n] P Q (witM t n kind) script value kind))).toArray ∧ Ext w w') 19 3
      ((1, .int .i64 (n : Nat)) :: (5, .pointer (some ⟨b5, 0, none⟩)) :: (7, .pointer (some ⟨b7, 0, none⟩)) :: (8, .pointer (some ⟨b8, 0, none⟩)) :: (9, .pointer (some ⟨b9, 0, none⟩)) :: (10, .pointer (some ⟨b10, 0, none⟩)) :: (15, .pointer (some ⟨b15, 0, none⟩)) :: (16, .pointer (some ⟨b16, 0, none⟩)) :: (17, .pointer (some ⟨wk.heap.size, 0, none⟩)) :: tl) ((wk.alloc (.cells (zc [(32, .int .u8 0)]) 36)).putN wk.heap.size 0 (bv (witM t n kind)).toArray) := by
    intro wk hk0 tl
    obtain ⟨hE, h17⟩ := put_new (wj := wk) (T := 36) (D := witM t n kind) hMl.1
    have hEk := hk0.ext hE
    exact wit_3 w _ b5 b7 b8 b9 b10 b15 b16 _ t iv ov sx value kind n hn P Q (witM t n kind) script (hB.go hEk) (hEk.at h15 (fun h => h)) (hEk.at h16 (fun h => h)) h17 hT.ins hok.ins hP hQ hMl.1 bP bQ hMl.2 hs hsb hsl hok.lock hk tl
  have s32 : (bv (witM t n kind)).toArray.size = 32 := by rw [bva_size]; exact hMl.1
  have hfl := bv_flat (witM t n kind)
  by_cases ha : kind % 32 ≠ 2 ∧ kind % 32 ≠ 3
  · have hd : decide (kind % 32 ≠ 2 ∧ kind % 32 ≠ 3) = true := decide_eq_true ha
    rw [hd]
    (refine W_at c19_ok ?_; refine ⟨_, rfl, ?_⟩; simp (disch := first | omega | assumption | rfl | (simp only [vcS] <;> omega) | fail) only [↓ptV_l, ↓vcA, vcB, vcE, ↓reduceIte, Nat.reduceEqDiff, Option.bind_some, Option.map_some])
    refine callV_ret (key true ⟨fun _ => .inl ha, fun _ => rfl⟩) ?_
    rintro _ wk ⟨rfl, hk1⟩
    first | (simp (disch := first | omega | assumption | rfl | (simp only [vcS] <;> omega) | fail) only [↓vcA, vcB, vcM, s32, hfl]) | skip
    exact fin wk hk1 _
  · have hd : decide (kind % 32 ≠ 2 ∧ kind % 32 ≠ 3) = false := decide_eq_false ha
    rw [hd]
    by_cases h3 : kind % 32 = 3
    · have h3d : decide (kind % 32 = 3) = true := decide_eq_true h3
      by_cases hl : n < t.outs.length
      · have hl' : ((n : Nat) : Int) < (t.outs.length : Nat) := by omega
        (refine W_at c19_ok ?_; refine ⟨_, rfl, ?_⟩; simp (disch := first | omega | assumption | rfl | (simp only [vcS] <;> omega) | fail) only [↓ptV_l, ↓vcA, vcB, vcE, ↓reduceIte, Nat.reduceEqDiff, Option.bind_some, Option.map_some, vcM, h3d, hB5, t2, hlo, hl'])
        refine callV_ret (key true ⟨fun _ => .inr ⟨h3, hl⟩, fun _ => rfl⟩) ?_
        rintro _ wk ⟨rfl, hk1⟩
        first | (simp (disch := first | omega | assumption | rfl | (simp only [vcS] <;> omega) | fail) only [↓vcA, vcB, vcM, s32, hfl]) | skip
        exact fin wk hk1 _
      · have hl' : ¬ ((n : Nat) : Int) < (t.outs.length : Nat) := by omega
        (refine W_at c19_ok ?_; refine ⟨_, rfl, ?_⟩; simp (disch := first | omega | assumption | rfl | (simp only [vcS] <;> omega) | fail) only [↓ptV_l, ↓vcA, vcB, vcE, ↓reduceIte, Nat.reduceEqDiff, Option.bind_some, Option.map_some, vcM, h3d, hB5, t2, hlo, hl'])
        refine callV_ret (key false ⟨fun h => (by cases h), fun h => absurd h (by rintro (h | h); exact ha h; exact hl h.2)⟩) ?_
        rintro _ wk ⟨rfl, hk1⟩
        first | (simp (disch := first | omega | assumption | rfl | (simp only [vcS] <;> omega) | fail) only [↓vcA, vcB, vcM, s32, hfl]) | skip
        exact fin wk hk1 _
    · have h3d : decide (kind % 32 = 3) = false := decide_eq_false h3
      (refine W_at c19_ok ?_; refine ⟨_, rfl, ?_⟩; simp (disch := first | omega | assumption | rfl | (simp only [vcS] <;> omega) | fail) only [↓ptV_l, ↓vcA, vcB, vcE, ↓reduceIte, Nat.reduceEqDiff, Option.bind_some, Option.map_some, h3d])
      refine callV_ret (key false ⟨fun h => (by cases h), fun h => absurd h (by rintro (h | h); exact ha h; exact h3 h.1)⟩) ?_
      rintro _ wk ⟨rfl, hk1⟩
      first | (simp (disch := first | omega | assumption | rfl | (simp only [vcS] <;> omega) | fail) only [↓vcA, vcB, vcM, s32, hfl]) | skip
      exact fin wk hk1 _
end Go.Proofs
namespace Go.Proofs
open Go.Vc
set_option maxRecDepth 10000

set_option maxHeartbeats 3200000 in
theorem wit_5 (w wj : World) (b5 b7 b8 b9 b10 b14 b15 : Nat) (t : TxV) (iv ov so sx : Value) (value kind : Int) (n : Nat) (hn : n < t.ins.length) (P script : List Int) (hB : WB w wj b5 b7 b8 b9 b10 t iv ov sx value kind) (h15 : wj.heap[b15]? = some (.cells (bv P).toArray 36 (0, 0)))
    (h14 : wj.heap[b14]? = some (.cells #[so] 23 (0, 0))) (hS : OusR w so (witS t n kind)) (hT : TxR w iv ov t) (hok : t.Ok) (hf : t.Few 100 1000)
    (hP : P.length = 32) (bP : byt P) (hs : Rd w sx script) (hsb : byt script) (hsl : script.length ≤ 1000) (hk : 0 ≤ kind ∧ kind ≤ 255) (tl : Env) :
    W Try.prog (Ret fun u w' => u = .agg (bv (dblF (witB t t.ins[n] P (witQ t kind) (witM t n kind) script value kind))).toArray ∧ Ext w w') 19 5
      ((1, .int .i64 (n : Nat)) :: (5, .pointer (some ⟨b5, 0, none⟩)) :: (7, .pointer (some ⟨b7, 0, none⟩)) :: (8, .pointer (some ⟨b8, 0, none⟩)) :: (9, .pointer (some ⟨b9, 0, none⟩)) :: (10, .pointer (some ⟨b10, 0, none⟩)) :: (11, .int .u8 (kind % 32)) :: (12, .bool (decide (128 ≤ kind))) :: (13, .bool (decide (kind % 32 ≠ 2 ∧ kind % 32 ≠ 3))) :: (14, .pointer (some ⟨b14, 0, none⟩)) :: (15, .pointer (some ⟨b15, 0, none⟩)) :: tl) wj := by
  have hl := sqF_len t.ins
  have hnI := hf.ins
  have hQl := ite_dbl (c := kind < 128 ∧ kind % 32 ≠ 2 ∧ kind % 32 ≠ 3) (t.ins.flatMap sqF)
  have key : ∀ is : Bool, (is = true ↔ (kind < 128 ∧ kind % 32 ≠ 2 ∧ kind % 32 ≠ 3)) → Calls Try.prog 36 #[.bool is, .func (.func 39) #[] #[.pointer (some ⟨b5, 0, none⟩)]] wj (Ret fun u wk => u = .agg (bv (witQ t kind)).toArray ∧ Ext wj wk) := by
    intro is his
    have h0 := over_ok wj is 39 #[.pointer (some ⟨b5, 0, none⟩)] (by kernel_rfl) (t.ins.flatMap sqF) (flat_byt fun y hy => lowF_byt _ _) (by omega) fun w0 w1 p hE hW => wit2_ok w0 w1 p b5 _ iv ov t hW (hB.go hE).h5 (ListR.ext hT.ins (hB.ext.ext hE) fun _ _ h => h.ext (hB.ext.ext hE)) hok.ins hnI
    have e : (if is = true then dblF (t.ins.flatMap sqF) else zeroD) = witQ t kind := by
      unfold witQ
      by_cases hc : kind < 128 ∧ kind % 32 ≠ 2 ∧ kind % 32 ≠ 3
      · rw [if_pos hc, if_pos (his.2 hc)]
      · rw [if_neg hc, if_neg fun h => hc (his.1 h)]
    rw [e] at h0
    exact h0
  have fin : ∀ wk, Ext wj wk → ∀ tl, W Try.prog (Ret fun u w' => u = .agg (bv (dblF (witB t t.ins[n] P (witQ t kind) (witM t n kind) script value kind))).toArray ∧ Ext w w') 19 4
      ((1, .int .i64 (n : Nat)) :: (5, .pointer (some ⟨b5, 0, none⟩)) :: (7, .pointer (some ⟨b7, 0, none⟩)) :: (8, .pointer (some ⟨b8, 0, none⟩)) :: (9, .pointer (some ⟨b9, 0, none⟩)) :: (10, .pointer (some ⟨b10, 0, none⟩)) :: (11, .int .u8 (kind % 32)) :: (13, .bool (decide (kind % 32 ≠ 2 ∧ kind % 32 ≠ 3))) :: (14, .pointer (some ⟨b14, 0, none⟩)) :: (15, .pointer (some ⟨b15, 0, none⟩)) :: (16, .pointer (some ⟨wk.heap.size, 0, none⟩)) :: tl) ((wk.alloc (.cells (zc [(32, .int .u8 0)]) 36)).putN wk.heap.size 0 (bv (witQ t kind)).toArray) := by
    intro wk hk0 tl
    obtain ⟨hE, h16⟩ := put_new (wj := wk) (T := 36) (D := witQ t kind) hQl.1
    have hEk := hk0.ext hE
    exact wit_4 w _ b5 b7 b8 b9 b10 b14 b15 _ t iv ov so sx value kind n hn P (witQ t kind) script (hB.go hEk) (hEk.at h15 (fun h => h)) h16 (hEk.at h14 (fun h => h)) hS hT hok hf hP hQl.1 bP hQl.2 hs hsb hsl hk tl
  have s32 : (bv (witQ t kind)).toArray.size = 32 := by rw [bva_size]; exact hQl.1
  have hfl := bv_flat (witQ t kind)
  by_cases hal : 128 ≤ kind
  · have hd1 : decide (128 ≤ kind) = true := decide_eq_true hal
    rw [hd1]
    (refine W_at c19_ok ?_; refine ⟨_, rfl, ?_⟩; simp (disch := first | omega | assumption | rfl | (simp only [vcS] <;> omega) | fail) only [↓ptV_l, ↓vcA, vcB, vcE, ↓reduceIte, Nat.reduceEqDiff, Option.bind_some, Option.map_some])
    refine callV_ret (key false ⟨fun h => (by cases h), fun h => absurd h.1 (by omega)⟩) ?_
    rintro _ wk ⟨rfl, hk1⟩
    first | (simp (disch := first | omega | assumption | rfl | (simp only [vcS] <;> omega) | fail) only [↓vcA, vcB, vcM, s32, hfl]) | skip
    exact fin wk hk1 _
  · have hd1 : decide (128 ≤ kind) = false := decide_eq_false hal
    rw [hd1]
    (refine W_at c19_ok ?_; refine ⟨_, rfl, ?_⟩; simp (disch := first | omega | assumption | rfl | (simp only [vcS] <;> omega) | fail) only [↓ptV_l, ↓vcA, vcB, vcE, ↓reduceIte, Nat.reduceEqDiff, Option.bind_some, Option.map_some])
    refine callV_ret (key (decide (kind % 32 ≠ 2 ∧ kind % 32 ≠ 3)) ⟨fun h => ⟨by omega, of_decide_eq_true h⟩, fun h => decide_eq_true h.2⟩) ?_
    rintro _ wk ⟨rfl, hk1⟩
    first | (simp (disch := first | omega | assumption | rfl | (simp only [vcS] <;> omega) | fail) only [↓vcA, vcB, vcM, s32, hfl]) | skip
    exact fin wk hk1 _
set_option maxHeartbeats 3200000 in
theorem wit_6 (w wj : World) (b5 b7 b8 b9 b10 b14 : Nat) (t : TxV) (iv ov so sx : Value) (value kind : Int) (n : Nat) (hn : n < t.ins.length) (script : List Int) (hB : WB w wj b5 b7 b8 b9 b10 t iv ov sx value kind)
    (h14 : wj.heap[b14]? = some (.cells #[so] 23 (0, 0))) (hS : OusR w so (witS t n kind)) (hT : TxR w iv ov t) (hok : t.Ok) (hf : t.Few 100 1000)
    (hs : Rd w sx script) (hsb : byt script) (hsl : script.length ≤ 1000) (hk : 0 ≤ kind ∧ kind ≤ 255) (tl : Env) :
    W Try.prog (Ret fun u w' => u = .agg (bv (dblF (witB t t.ins[n] (witP t kind) (witQ t kind) (witM t n kind) script value kind))).toArray ∧ Ext w w') 19 6
      ((1, .int .i64 (n : Nat)) :: (5, .pointer (some ⟨b5, 0, none⟩)) :: (7, .pointer (some ⟨b7, 0, none⟩)) :: (8, .pointer (some ⟨b8, 0, none⟩)) :: (9, .pointer (some ⟨b9, 0, none⟩)) :: (10, .pointer (some ⟨b10, 0, none⟩)) :: (11, .int .u8 (kind % 32)) :: (12, .bool (decide (128 ≤ kind))) :: (13, .bool (decide (kind % 32 ≠ 2 ∧ kind % 32 ≠ 3))) :: (14, .pointer (some ⟨b14, 0, none⟩)) :: tl) wj := by
  have hl := plF_len (l := t.ins) fun x hx => (hok.ins x hx).len
  have hnI := hf.ins
  have hPl := ite_dbl (c := kind < 128) (t.ins.flatMap plF)
  have h0 := over_ok wj (!decide (128 ≤ kind)) 37 #[.pointer (some ⟨b5, 0, none⟩)] (by kernel_rfl) (t.ins.flatMap plF) (flat_byt fun y hy => byt_app (hok.ins y hy).prev (lowF_byt _ _)) (by omega) fun w0 w1 p hE hW => wit1_ok w0 w1 p b5 _ iv ov t hW (hB.go hE).h5 (ListR.ext hT.ins (hB.ext.ext hE) fun _ _ h => h.ext (hB.ext.ext hE)) hok.ins hnI
  have e : (if (!decide (128 ≤ kind)) = true then dblF (t.ins.flatMap plF) else zeroD) = witP t kind := by
    unfold witP
    by_cases hc : kind < 128
    · rw [if_pos hc, if_pos (by simp; omega)]
    · rw [if_neg hc, if_neg (by simp; omega)]
  rw [e] at h0
  have s32 : (bv (witP t kind)).toArray.size = 32 := by rw [bva_size]; exact hPl.1
  have hfl := bv_flat (witP t kind)
  (refine W_at c19_ok ?_; refine ⟨_, rfl, ?_⟩; simp (disch := first | omega | assumption | rfl | (simp only [vcS] <;> omega) | fail) only [↓ptV_l, ↓vcA, vcB, vcE, ↓reduceIte, Nat.reduceEqDiff, Option.bind_some, Option.map_some])
  refine callV_ret h0 ?_
  rintro _ wk ⟨rfl, hk1⟩
  first | (simp (disch := first | omega | assumption | rfl | (simp only [vcS] <;> omega) | fail) only [↓vcA, vcB, vcM, s32, hfl]) | skip
  obtain ⟨hE, h15⟩ := put_new (wj := wk) (T := 36) (D := witP t kind) hPl.1
  have hEk := hk1.ext hE
  exact wit_5 w _ b5 b7 b8 b9 b10 b14 _ t iv ov so sx value kind n hn (witP t kind) script (hB.go hEk) h15 (hEk.at h14 (fun h => h)) hS hT hok hf hPl.1 hPl.2 hs hsb hsl hk _
set_option maxHeartbeats 3200000 in
theorem wit_10 (w wj : World) (b5 b7 b8 b9 b10 : Nat) (t : TxV) (iv ov sx : Value) (value kind : Int) (n : Nat) (hn : n < t.ins.length) (script : List Int) (hB : WB w wj b5 b7 b8 b9 b10 t iv ov sx value kind)
    (hT : TxR w iv ov t) (hok : t.Ok) (hf : t.Few 100 1000)
    (hs : Rd w sx script) (hsb : byt script) (hsl : script.length ≤ 1000) (hk : 0 ≤ kind ∧ kind ≤ 255) (tl : Env) :
    W Try.prog (Ret fun u w' => u = .agg (bv (dblF (witB t t.ins[n] (witP t kind) (witQ t kind) (witM t n kind) script value kind))).toArray ∧ Ext w w') 19 10
      ((1, .int .i64 (n : Nat)) :: (5, .pointer (some ⟨b5, 0, none⟩)) :: (7, .pointer (some ⟨b7, 0, none⟩)) :: (8, .pointer (some ⟨b8, 0, none⟩)) :: (9, .pointer (some ⟨b9, 0, none⟩)) :: (10, .pointer (some ⟨b10, 0, none⟩)) :: (11, .int .u8 (kind % 32)) :: (12, .bool (decide (128 ≤ kind))) :: (13, .bool (decide (kind % 32 ≠ 2 ∧ kind % 32 ≠ 3))) :: tl) wj := by
  have hB5 := hB.h5
  have t2 : (txC t iv ov)[2]? = some ov := rfl
  have hlo := ListR.len hT.outs
  have ho1 := ListR.one hT.outs
  have hEs : ∀ so, Ext wj ((wj.alloc (.cells (zc [(1, .slice none 0 0)]) 23)).setCell ⟨wj.heap.size, 0, none⟩ so) := fun so => ((Keep.refl _ wj).alloc _).setCell _ (by intro hh; exfalso; simp at hh)
  have hEa : Ext wj (wj.alloc (.cells (zc [(1, .slice none 0 0)]) 23)) := (Keep.refl _ wj).alloc _
  have h14a : (wj.alloc (.cells (zc [(1, .slice none 0 0)]) 23)).heap[wj.heap.size]? = some (.cells (zc [(1, .slice none 0 0)]) 23 (0, 0)) := heap_new _ _ _ rfl
  (refine W_at c19_ok ?_; refine ⟨_, rfl, ?_⟩; simp (disch := first | omega | assumption | rfl | (simp only [vcS] <;> omega) | fail) only [↓ptV_l, ↓vcA, vcB, ↓reduceIte, Nat.reduceEqDiff, Option.bind_some, vcM, hB5, t2, ho1])
  refine ⟨wr1_of h14a (by simp [zc, runs]), ?_⟩
  have hE1 := hEs ov
  have h14 : ((wj.alloc (.cells (zc [(1, .slice none 0 0)]) 23)).setCell ⟨wj.heap.size, 0, none⟩ ov).heap[wj.heap.size]? = some (.cells #[ov] 23 (0, 0)) := by rw [heap_setCell_eq h14a]; rfl
  clear hEs hEa h14a
  generalize World.setCell _ _ _ = w1 at hE1 h14 ⊢
  generalize hb14 : wj.heap.size = b14 at h14 ⊢
  have hB1 := hB.go hE1
  have hB15 := hB1.h5
  by_cases h3 : kind % 32 = 3
  · have h3d : decide (kind % 32 = 3) = true := decide_eq_true h3
    by_cases hl : n < t.outs.length
    · have hl' : ((n : Nat) : Int) < (t.outs.length : Nat) := by omega
      (refine W_at c19_ok ?_; refine ⟨_, rfl, ?_⟩; simp (disch := first | omega | assumption | rfl | (simp only [vcS] <;> omega) | fail) only [↓vcA, vcB, ↓reduceIte, Nat.reduceEqDiff, Option.bind_some, vcM, h3d, hB15, t2, hlo, hl'])
      (refine W_at c19_ok ?_; refine ⟨_, rfl, ?_⟩; simp (disch := first | omega | assumption | rfl | (simp only [vcS] <;> omega) | fail) only [↓vcA, vcB, ↓reduceIte, Nat.reduceEqDiff])
      have hO := hT.outs
      obtain ⟨_, _, _, _, ⟨q, c, eo, hc⟩, hm, _⟩ := id hO
      have hoc := hf.outs
      subst eo
      have wi : IntKind.i64.wrap ((n : Int) + 1) = ((n + 1 : Nat) : Int) := wrap_i64 (by omega) (by omega)
      have k1 : (0 : Int) ≤ (n : Nat) ∧ ((n : Nat) : Int) ≤ ((n + 1 : Nat) : Int) ∧ ((n + 1 : Nat) : Int) ≤ (c : Nat) := by omega
      have k2 : (0 : Int) ≤ ((n + 1 : Nat) : Int) := by omega
      (refine W_at c19_ok ?_; refine ⟨_, rfl, ?_⟩; simp (disch := first | omega | assumption | rfl | (simp only [vcS] <;> omega) | fail) only [↓ptV_l, ↓vcA, vcB, ↓reduceIte, Nat.reduceEqDiff, Option.bind_some, Option.map_some, vcM, hB15, t2, wi, k1, k2, Int.toNat_natCast])
      refine ⟨wr1_of h14 (by simp), ?_⟩
      have hk2 : Keep (fun g => g = b14) w1 (w1.setCell ⟨b14, 0, none⟩ (.slice (advA 2 q c n) (n + 1 - n) (c - n))) := (Keep.refl _ w1).setCell _ fun _ => rfl
      have h142 : (w1.setCell ⟨b14, 0, none⟩ (.slice (advA 2 q c n) (n + 1 - n) (c - n))).heap[b14]? = some (.cells #[.slice (advA 2 q c n) (n + 1 - n) (c - n)] 23 (0, 0)) := by rw [heap_setCell_eq h14]; rfl
      have hE2 := hE1.trans hk2 fun g hg e => by omega
      refine wit_6 w _ b5 b7 b8 b9 b10 b14 t iv _ _ sx value kind n hn script (hB.go hE2) h142 ?_ hT hok hf hs hsb hsl hk _
      unfold witS
      rw [if_pos ⟨h3, hl⟩]
      exact hO.cut1 hl
    · have hl' : ¬ ((n : Nat) : Int) < (t.outs.length : Nat) := by omega
      (refine W_at c19_ok ?_; refine ⟨_, rfl, ?_⟩; simp (disch := first | omega | assumption | rfl | (simp only [vcS] <;> omega) | fail) only [↓vcA, vcB, ↓reduceIte, Nat.reduceEqDiff, Option.bind_some, vcM, h3d, hB15, t2, hlo, hl'])
      (refine W_at c19_ok ?_; refine ⟨_, rfl, ?_⟩; simp (disch := first | omega | assumption | rfl | (simp only [vcS] <;> omega) | fail) only [↓vcA, vcB, ↓reduceIte, Nat.reduceEqDiff])
      exact wit_6 w _ b5 b7 b8 b9 b10 b14 t iv ov ov sx value kind n hn script hB1 h14 (by unfold witS; rw [if_neg fun h => hl h.2]; exact hT.outs) hT hok hf hs hsb hsl hk _
  · have h3d : decide (kind % 32 = 3) = false := decide_eq_false h3
    (refine W_at c19_ok ?_; refine ⟨_, rfl, ?_⟩; simp (disch := first | omega | assumption | rfl | (simp only [vcS] <;> omega) | fail) only [↓vcA, vcB, ↓reduceIte, Nat.reduceEqDiff, Option.bind_some, h3d])
    (refine W_at c19_ok ?_; refine ⟨_, rfl, ?_⟩; simp (disch := first | omega | assumption | rfl | (simp only [vcS] <;> omega) | fail) only [↓vcA, vcB, ↓reduceIte, Nat.reduceEqDiff])
    exact wit_6 w _ b5 b7 b8 b9 b10 b14 t iv ov ov sx value kind n hn script hB1 h14 (by unfold witS; rw [if_neg fun h => h3 h.1]; exact hT.outs) hT hok hf hs hsb hsl hk _
theorem WB.new (w : World) (t : TxV) (iv ov sx : Value) (value kind : Int) :
    WB w (((((w.alloc (.cells (txC t iv ov) 26)).alloc (.cells #[sx] 27)).alloc (.cells #[.int .i64 value] 2)).alloc (.cells #[.int .u8 kind] 5)).alloc (.cells (zc [(32, .int .u8 0)]) 36))
      w.heap.size (w.heap.size + 1) (w.heap.size + 1 + 1) (w.heap.size + 1 + 1 + 1) (w.heap.size + 1 + 1 + 1 + 1) t iv ov sx value kind := by
  have al : ∀ (w : World) (o : Obj), Ext w (w.alloc o) := fun w o => (Keep.refl _ w).alloc _
  generalize e1 : w.alloc (.cells (txC t iv ov) 26) = w1
  have s1 : w1.heap.size = w.heap.size + 1 := by rw [← e1]; exact size_alloc _ _
  have h5 : w1.heap[w.heap.size]? = some (.cells (txC t iv ov) 26 (0, 0)) := by rw [← e1]; exact heap_new _ _ _ rfl
  have x1 : Ext w w1 := by rw [← e1]; exact al _ _
  generalize e2 : w1.alloc (.cells #[sx] 27) = w2
  have s2 : w2.heap.size = w.heap.size + 1 + 1 := by rw [← e2, size_alloc, s1]
  have h7 : w2.heap[w.heap.size + 1]? = some (.cells #[sx] 27 (0, 0)) := by rw [← s1, ← e2]; exact heap_new _ _ _ rfl
  have x2 : Ext w1 w2 := by rw [← e2]; exact al _ _
  generalize e3 : w2.alloc (.cells #[.int .i64 value] 2) = w3
  have s3 : w3.heap.size = w.heap.size + 1 + 1 + 1 := by rw [← e3, size_alloc, s2]
  have h8 : w3.heap[w.heap.size + 1 + 1]? = some (.cells #[.int .i64 value] 2 (0, 0)) := by rw [← s2, ← e3]; exact heap_new _ _ _ rfl
  have x3 : Ext w2 w3 := by rw [← e3]; exact al _ _
  generalize e4 : w3.alloc (.cells #[.int .u8 kind] 5) = w4
  have s4 : w4.heap.size = w.heap.size + 1 + 1 + 1 + 1 := by rw [← e4, size_alloc, s3]
  have h9 : w4.heap[w.heap.size + 1 + 1 + 1]? = some (.cells #[.int .u8 kind] 5 (0, 0)) := by rw [← s3, ← e4]; exact heap_new _ _ _ rfl
  have x4 : Ext w3 w4 := by rw [← e4]; exact al _ _
  have hb1 : zc [(32, Value.int .u8 0)] = (bv zeroD).toArray := rfl
  have h10 : (w4.alloc (.cells (zc [(32, .int .u8 0)]) 36)).heap[w.heap.size + 1 + 1 + 1 + 1]? = some (.cells (bv zeroD).toArray 36 (0, 0)) := by rw [← s4, ← hb1]; exact heap_new _ _ _ rfl
  have x5 : Ext w4 (w4.alloc (.cells (zc [(32, .int .u8 0)]) 36)) := al _ _
  exact ⟨(((x1.ext x2).ext x3).ext x4).ext x5, by omega, x5.at (x4.at (x3.at (x2.at h5 (fun h => h)) (fun h => h)) (fun h => h)) (fun h => h), x5.at (x4.at (x3.at h7 (fun h => h)) (fun h => h)) (fun h => h), x5.at (x4.at h8 (fun h => h)) (fun h => h), x5.at h9 (fun h => h), h10⟩
set_option maxHeartbeats 3200000 in
theorem witness_ok (w : World) (iv ov : Value) (t : TxV) (hT : TxR w iv ov t) (hok : t.Ok) (hf : t.Few 100 1000) (i : Int) (sx : Value) (script : List Int) (hs : Rd w sx script) (hsb : byt script) (hsl : script.length ≤ 1000) (value kind : Int) (hk : 0 ≤ kind ∧ kind ≤ 255) :
    Calls Try.prog 19 #[.agg (txC t iv ov), .int .i64 i, sx, .int .i64 value, .int .u8 kind] w (Ret fun u w' => u = .agg (bv (witF t i script value kind)).toArray ∧ Ext w w') := by
  refine calls_of_cfg c19_ok (Nat.le_of_ble_eq_true rfl) ?_
  simp only [argE_nil, argE_cons, Nat.reduceAdd, Nat.zero_add]
  have hi1 := ListR.one hT.ins
  have ho1 := ListR.one hT.outs
  have hli := ListR.len hT.ins
  have hfx : flat (txC t iv ov) := by intro y hy; simp only [txC, List.mem_cons, List.not_mem_nil, or_false] at hy; rcases hy with rfl | rfl | rfl | rfl <;> first | rfl | assumption
  have hcx : (Value.agg (txC t iv ov)).cells = txC t iv ov := rfl
  have hzx := txC_sz t iv ov
  have hsx := hs.one
  have hcs : sx.cells = #[sx] := by obtain ⟨⟨q, c, e, _⟩, _⟩ := hs; rw [e]; rfl
  (refine W_at c19_ok ?_; refine ⟨_, rfl, ?_⟩; simp (disch := first | omega | assumption | rfl | (simp only [vcS] <;> omega) | fail) only [↓ptV_l, ↓vcA, vcB, ↓reduceIte, Nat.reduceEqDiff, reduceCtorEq, vcM, hcx, hcs])
  have hB := WB.new w t iv ov sx value kind
  generalize World.alloc _ _ = wj at hB ⊢
  generalize w.heap.size + 1 + 1 + 1 + 1 = b10 at hB ⊢
  generalize w.heap.size + 1 + 1 + 1 = b9 at hB ⊢
  generalize w.heap.size + 1 + 1 = b8 at hB ⊢
  generalize w.heap.size + 1 = b7 at hB ⊢
  generalize hb5 : w.heap.size = b5 at hB ⊢
  have hB5 := hB.h5
  have t1 : (txC t iv ov)[1]? = some iv := rfl
  have noth : ¬ (0 ≤ i ∧ i.toNat < t.ins.length) → ∀ tl, W Try.prog (Ret fun u w' => u = .agg (bv (witF t i script value kind)).toArray ∧ Ext w w') 19 14 ((1, .int .i64 i) :: (5, .pointer (some ⟨b5, 0, none⟩)) :: (7, .pointer (some ⟨b7, 0, none⟩)) :: (8, .pointer (some ⟨b8, 0, none⟩)) :: (9, .pointer (some ⟨b9, 0, none⟩)) :: (10, .pointer (some ⟨b10, 0, none⟩)) :: tl) wj := by
    intro hno tl
    unfold witF
    rw [dif_neg hno]
    have h10 := hB.h10
    (refine W_at c19_ok ?_; refine ⟨_, rfl, ?_⟩; simp (disch := first | omega | assumption | rfl | (simp only [vcS] <;> omega) | fail) only [↓ptV_l, ↓vcA, vcB, ↓reduceIte, Nat.reduceEqDiff])
    refine callV_ret (nothing_ok wj) ?_
    rintro _ w3 ⟨rfl, hE3⟩
    have c23 := hE3.at h10 (fun h => h)
    have s32 : (bv oneD).toArray.size = 32 := rfl
    have z32 : (bv zeroD).toArray.size = 32 := rfl
    have o32 : okO (some (.cells (bv zeroD).toArray 36 (0, 0))) 0 32 = True := by simp only [okO, z32]; simp
    first | (simp (disch := first | omega | assumption | rfl | (simp only [vcS] <;> omega) | fail) only [↓vcA, vcB, vcM, c23, s32, o32]) | skip
    refine ⟨bv_flat _, ?_⟩
    have d9 : (w3.putN b10 0 (bv oneD).toArray).heap[b10]? = some (.cells (bv oneD).toArray 36 (0, 0)) := by rw [heap_putN_eq c23, splice_all (by rw [s32]; rfl)]
    have hr32 : rdO (some (.cells (bv oneD).toArray 36 (0, 0))) 0 32 = some (bv oneD).toArray := rdO_all _ _ _ _ s32
    have hlo := hB.lo
    (refine W_at c19_ok ?_; refine ⟨_, rfl, ?_⟩; simp (disch := first | omega | assumption | rfl | (simp only [vcS] <;> omega) | fail) only [↓vcA, vcB, ↓reduceIte, Option.bind_some, Option.map_some, vcM, d9, hr32, Ret_returned])
    exact (hB.ext.ext hE3).trans ((Keep.refl (fun g => g = b10) w3).putN _ fun _ => rfl) fun g hg e => by omega
  by_cases a1 : i < 0
  · (refine W_at c19_ok ?_; refine ⟨_, rfl, ?_⟩; simp (disch := first | omega | assumption | rfl | (simp only [vcS] <;> omega) | fail) only [↓vcA, vcB, ↓reduceIte, Nat.reduceEqDiff, Option.bind_some, a1])
    (refine W_at c19_ok ?_; refine ⟨_, rfl, ?_⟩; simp (disch := first | omega | assumption | rfl | (simp only [vcS] <;> omega) | fail) only [↓vcA, vcB, ↓reduceIte, Nat.reduceEqDiff])
    exact noth (fun h => by omega) _
  by_cases a2 : (t.ins.length : Int) ≤ i
  · (refine W_at c19_ok ?_; refine ⟨_, rfl, ?_⟩; simp (disch := first | omega | assumption | rfl | (simp only [vcS] <;> omega) | fail) only [↓vcA, vcB, ↓reduceIte, Nat.reduceEqDiff, Option.bind_some, vcM, a1, a2, hB5, t1, hli])
    (refine W_at c19_ok ?_; refine ⟨_, rfl, ?_⟩; simp (disch := first | omega | assumption | rfl | (simp only [vcS] <;> omega) | fail) only [↓vcA, vcB, ↓reduceIte, Nat.reduceEqDiff])
    exact noth (fun h => by omega) _
  (refine W_at c19_ok ?_; refine ⟨_, rfl, ?_⟩; simp (disch := first | omega | assumption | rfl | (simp only [vcS] <;> omega) | fail) only [↓vcA, vcB, ↓reduceIte, Nat.reduceEqDiff, Option.bind_some, vcM, a1, a2, hB5, t1, hli])
  (refine W_at c19_ok ?_; refine ⟨_, rfl, ?_⟩; simp (disch := first | omega | assumption | rfl | (simp only [vcS] <;> omega) | fail) only [↓vcA, vcB, ↓reduceIte, Nat.reduceEqDiff])
  clear noth
  have h9 := hB.h9
  (refine W_at c19_ok ?_; refine ⟨_, rfl, ?_⟩; simp (disch := first | omega | assumption | rfl | (simp only [vcS] <;> omega) | fail) only [↓ptV_l, ↓vcA, vcB, ↓reduceIte, Nat.reduceEqDiff, Option.bind_some, Option.map_some, vcM, List.getElem?_toArray, List.getElem?_cons_zero, h9])
  refine callV_ret (way_ok wj kind hk) ?_
  rintro _ wx ⟨rfl, hwx⟩
  rw [hwx]
  clear hwx
  first | (simp (disch := first | omega | assumption | rfl | (simp only [vcS] <;> omega) | fail) only [↓vcA, vcB, List.getElem?_toArray, List.getElem?_cons_zero, List.getElem?_cons_succ]) | skip
  obtain ⟨n, rfl⟩ := Int.eq_ofNat_of_zero_le (show 0 ≤ i by omega)
  have hn : n < t.ins.length := by omega
  have hwF : witF t (n : Nat) script value kind = dblF (witB t t.ins[n] (witP t kind) (witQ t kind) (witM t n kind) script value kind) := by
    unfold witF
    rw [dif_pos ⟨by omega, by rw [Int.toNat_natCast]; exact hn⟩]
    rfl
  rw [hwF]
  have fin := wit_10 w wj b5 b7 b8 b9 b10 t iv ov sx value kind n hn script hB hT hok hf hs hsb hsl hk
  by_cases c2 : kind % 32 = 2
  · have d2 : decide (kind % 32 = 2) = true := decide_eq_true c2
    have e : decide (kind % 32 ≠ 2 ∧ kind % 32 ≠ 3) = false := decide_eq_false fun h => h.1 c2
    rw [e] at fin
    (refine W_at c19_ok ?_; refine ⟨_, rfl, ?_⟩; simp (disch := first | omega | assumption | rfl | (simp only [vcS] <;> omega) | fail) only [↓vcA, vcB, ↓reduceIte, Nat.reduceEqDiff, Option.bind_some, d2])
    exact fin _
  · have d2 : decide (kind % 32 = 2) = false := decide_eq_false c2
    by_cases c3 : kind % 32 = 3
    · have d3 : decide (kind % 32 = 3) = true := decide_eq_true c3
      have e : decide (kind % 32 ≠ 2 ∧ kind % 32 ≠ 3) = false := decide_eq_false fun h => h.2 c3
      rw [e] at fin
      (refine W_at c19_ok ?_; refine ⟨_, rfl, ?_⟩; simp (disch := first | omega | assumption | rfl | (simp only [vcS] <;> omega) | fail) only [↓vcA, vcB, ↓reduceIte, Nat.reduceEqDiff, Option.bind_some, d2, d3])
      exact fin _
    · have d3 : decide (kind % 32 = 3) = false := decide_eq_false c3
      have e : decide (kind % 32 ≠ 2 ∧ kind % 32 ≠ 3) = true := decide_eq_true ⟨c2, c3⟩
      rw [e] at fin
      (refine W_at c19_ok ?_; refine ⟨_, rfl, ?_⟩; simp (disch := first | omega | assumption | rfl | (simp only [vcS] <;> omega) | fail) only [↓vcA, vcB, ↓reduceIte, Nat.reduceEqDiff, Option.bind_some, d2, d3])
      exact fin _
end Go.Proofs
namespace Go.Proofs
open Go.Vc
set_option maxRecDepth 10000

theorem liesBAll_split {bz : Tys → Nat} {w : World} : ∀ {s t : Tys} {l : List Value}, LiesBAll bz w (s.app t) l → ∃ a b, l = a ++ b ∧ LiesBAll bz w s a ∧ LiesBAll bz w t b
  | .nil, t, l, h => ⟨[], l, rfl, by simp only [LiesBAll], h⟩
  | .cons u s, t, [], h => by simp only [Tys.app, LiesBAll] at h
  | .cons u s, t, v :: l, h => by
    simp only [Tys.app, LiesBAll] at h
    obtain ⟨a, b, e, h1, h2⟩ := liesBAll_split h.2
    exact ⟨v :: a, b, by rw [e]; rfl, by simp only [LiesBAll]; exact ⟨h.1, h1⟩, h2⟩
theorem bytes_rep {bz : Tys → Nat} {w : World} : ∀ (k : Nat) (l : List Value), LiesBAll bz w (Tys.rep k u8T) l → ∃ bs, l = bv bs ∧ bs.length = k ∧ byt bs
  | 0, l, h => by
    simp only [Tys.rep, LiesBAll] at h
    exact ⟨[], h, rfl, byt_nil⟩
  | k + 1, l, h => by
    simp only [Tys.rep, u8T, Tys.app] at h
    cases l with
    | nil => simp only [LiesBAll] at h
    | cons v l =>
      simp only [LiesBAll, LiesB] at h
      obtain ⟨⟨n, rfl, hn⟩, h2⟩ := h
      obtain ⟨bs, rfl, hl, hb⟩ := bytes_rep k l h2
      have := wf_int hn
      have e1 : IntKind.u8.min = 0 := by decide
      have e2 : IntKind.u8.max = 255 := by decide
      refine ⟨n :: bs, rfl, by rw [List.length_cons, hl], fun b hx => ?_⟩
      rcases List.mem_cons.1 hx with rfl | hx
      · omega
      · exact hb b hx
theorem reach_le : reachBytes ≤ 140737488355328 := by decide
theorem sl_of {w : World} {v : Value} (h : LiesB bzT w (.sl u8T) v) : ∃ bs, Rd w v bs ∧ byt bs ∧ bs.length ≤ 140737488355328 := by
  obtain ⟨bs, h1, h2⟩ := bytes_of h.lies
  refine ⟨bs, h1, h2, ?_⟩
  obtain ⟨⟨q', c', e, _⟩, _⟩ := h1
  simp only [LiesB] at h
  obtain ⟨q, n, c, xs, e2, _, _, h3, _⟩ := h
  rw [e] at e2
  injection e2 with _ e3 _
  have := reach_le
  rw [bz_u8] at h3
  omega
theorem rows_of {w : World} {v : Value} (h : LiesB bzT w (.sl rowT) v) : ∃ ps, RowR w v ps ∧ (∀ p ∈ ps, byt p ∧ p.length ≤ 140737488355328) ∧ ps.length * 24 ≤ 140737488355328 := by
  simp only [LiesB] at h
  obtain ⟨q, n, c, xs, rfl, h2, h3, hz, h4, h5, h6, h7⟩ := h
  rw [bz_row] at hz
  have hre := reach_le
  obtain ⟨ps, hl, hps⟩ := list_choose (p := fun (x : Array Value) (b : Value × List Int) => x = #[b.1] ∧ Rd w b.1 b.2 ∧ byt b.2 ∧ b.2.length ≤ 140737488355328) xs (fun x hx => by
    have h := h7 x hx
    cases hl : x.toList with
    | nil => rw [hl] at h; simp only [rowT, LiesBAll] at h
    | cons y l =>
      rw [hl] at h
      simp only [rowT, LiesBAll] at h
      obtain ⟨h8, rfl⟩ := h
      obtain ⟨bs, hr, hb, hz⟩ := sl_of h8
      exact ⟨(y, bs), Array.ext' hl, hr, hb, hz⟩)
  have ex : xs = (ps.map (·.1)).map fun v => #[v] := by
    apply List.ext_getElem
    · simp [hl]
    · intro i a b
      simp only [List.getElem_map]
      exact (hps i a (by omega)).1
  have h5' : rdS w 1 (.slice q n c) = some (ps.map (·.1)).toArray := by
    have e0 : rowT.len = 1 := rfl
    rw [e0, ex, flat1_list] at h5
    exact h5
  refine ⟨ps.map (·.2), ⟨ps.map (·.1), h5', by simp, ⟨q, c, by rw [List.length_map, hl, h4], by rw [List.length_map]; omega⟩, by rw [List.length_map]; omega, fun i a b => ?_⟩, fun p hp => ?_, by rw [List.length_map]; omega⟩
  · simp only [List.getElem_map]
    rw [List.length_map] at a
    exact (hps i (by omega) a).2.1
  · obtain ⟨b, hb, rfl⟩ := List.mem_map.1 hp
    obtain ⟨i, hi, rfl⟩ := List.getElem_of_mem hb
    exact (hps i (by omega) hi).2.2
theorem int_of {w : World} {k : IntKind} {v : Value} (h : LiesB bzT w (.int k) v) : ∃ n, v = .int k n ∧ k.min ≤ n ∧ n ≤ k.max := by
  simp only [LiesB] at h
  obtain ⟨n, rfl, hn⟩ := h
  exact ⟨n, rfl, wf_int hn⟩
theorem in_of {w : World} {x : Array Value} (h : LiesBAll bzT w inT x.toList) : ∃ y : TxI, InAt w x y ∧ y.Ok ∧ y.Sz := by
  obtain ⟨a, b, e, h1, h2⟩ := liesBAll_split h
  obtain ⟨prev, rfl, hl, hb⟩ := bytes_rep 32 a h1
  cases b with
  | nil => simp only [LiesBAll] at h2
  | cons v1 b =>
  simp only [LiesBAll] at h2
  obtain ⟨k1, h2⟩ := h2
  cases b with
  | nil => simp only [] at h2
  | cons v2 b =>
  simp only [] at h2
  obtain ⟨k2, h2⟩ := h2
  cases b with
  | nil => simp only [] at h2
  | cons v3 b =>
  simp only [] at h2
  obtain ⟨k3, h2⟩ := h2
  cases b with
  | nil => simp only [] at h2
  | cons v4 b =>
  simp only [] at h2
  obtain ⟨k4, rfl⟩ := h2
  obtain ⟨idx, rfl, hi⟩ := int_of k1
  obtain ⟨seq, rfl, hs⟩ := int_of k3
  obtain ⟨sc, hr, hsb, hsz⟩ := sl_of k2
  obtain ⟨ps, hw, hwb, hwz⟩ := rows_of k4
  have e1 : IntKind.u32.min = 0 := by decide
  have e2 : IntKind.u32.max = 4294967295 := by decide
  refine ⟨⟨prev, idx, sc, seq, ps⟩, ⟨v2, v4, ?_, hr, hw⟩, ⟨hl, hb, by dsimp only; omega, hsb, by dsimp only; omega, fun p hp => (hwb p hp).1⟩, ⟨hsz, hwz, fun p hp => (hwb p hp).2⟩⟩
  apply Array.ext'
  rw [e]; rfl
theorem ou_of {w : World} {x : Array Value} (h : LiesBAll bzT w ouT x.toList) : ∃ y : TxO, OuAt w x y ∧ y.Ok ∧ y.script.length ≤ 140737488355328 := by
  unfold ouT at h
  cases e : x.toList with
  | nil => rw [e] at h; simp only [LiesBAll] at h
  | cons v1 b =>
  rw [e] at h
  simp only [LiesBAll] at h
  obtain ⟨k1, h2⟩ := h
  cases b with
  | nil => simp only [] at h2
  | cons v2 b =>
  simp only [] at h2
  obtain ⟨k2, rfl⟩ := h2
  obtain ⟨val, rfl, hi⟩ := int_of k1
  obtain ⟨sc, hr, hsb, hsz⟩ := sl_of k2
  have e1 : IntKind.i64.min = -9223372036854775808 := by decide
  have e2 : IntKind.i64.max = 9223372036854775807 := by decide
  refine ⟨⟨val, sc⟩, ⟨v2, ?_, hr⟩, ⟨by dsimp only; omega, hsb⟩, hsz⟩
  apply Array.ext'
  rw [e]; rfl
theorem ls_of {α : Type} {w : World} {v : Value} {T : Tys} {size bytes : Nat} {R : World → Array Value → α → Prop} {φ : α → Prop} (hT : T.len = size) (hB : bzT T = bytes) (h : LiesB bzT w (.sl T) v) (hx : ∀ x : Array Value, LiesBAll bzT w T x.toList → ∃ y, R w x y ∧ φ y) :
    ∃ l : List α, ListR R size w v l ∧ (∀ y ∈ l, φ y) ∧ l.length * bytes ≤ 140737488355328 := by
  simp only [LiesB] at h
  obtain ⟨q, n, c, xs, rfl, h2, h3, hz, h4, h5, h6, h7⟩ := h
  have hre := reach_le
  rw [hT] at h5 h6
  rw [hB] at hz
  obtain ⟨l, hl, hps⟩ := list_choose (p := fun (x : Array Value) (y : α) => R w x y ∧ φ y) xs fun x hx' => hx x (h7 x hx')
  refine ⟨l, ⟨xs, hl.symm, h6, h5, ⟨q, c, by rw [hl, h4], by omega⟩, by omega, fun i a b => (hps i a b).1⟩, fun y hy => ?_, by rw [hl, h4]; omega⟩
  obtain ⟨i, hi, rfl⟩ := List.getElem_of_mem hy
  exact (hps i (by omega) hi).2
theorem tx_of {w : World} {x : Array Value} (h : LiesBAll bzT w txT x.toList) : ∃ t iv ov, x = txC t iv ov ∧ TxR w iv ov t ∧ t.Ok ∧ t.Sz := by
  unfold txT at h
  cases e : x.toList with
  | nil => rw [e] at h; simp only [LiesBAll] at h
  | cons v1 b =>
  rw [e] at h
  simp only [LiesBAll] at h
  obtain ⟨k1, h2⟩ := h
  cases b with
  | nil => simp only [] at h2
  | cons v2 b =>
  simp only [] at h2
  obtain ⟨k2, h2⟩ := h2
  cases b with
  | nil => simp only [] at h2
  | cons v3 b =>
  simp only [] at h2
  obtain ⟨k3, h2⟩ := h2
  cases b with
  | nil => simp only [] at h2
  | cons v4 b =>
  simp only [] at h2
  obtain ⟨k4, rfl⟩ := h2
  obtain ⟨ver, rfl, hv⟩ := int_of k1
  obtain ⟨lock, rfl, hk⟩ := int_of k4
  obtain ⟨ins, a1, a2, a3⟩ := ls_of (size := 36) (bytes := 96) (R := InAt) (φ := fun y => y.Ok ∧ y.Sz) rfl rfl k2 fun x h => in_of h
  obtain ⟨outs, b1, b2, b3⟩ := ls_of (size := 2) (bytes := 32) (R := OuAt) (φ := fun y => y.Ok ∧ y.script.length ≤ 140737488355328) rfl rfl k3 fun x h => ou_of h
  have e1 : IntKind.u32.min = 0 := by decide
  have e2 : IntKind.u32.max = 4294967295 := by decide
  have e3 : IntKind.i32.min = -2147483648 := by decide
  have e4 : IntKind.i32.max = 2147483647 := by decide
  refine ⟨⟨ver, ins, outs, lock⟩, v2, v3, ?_, ⟨a1, b1⟩, ⟨by dsimp only; omega, fun x hx => (a2 x hx).1, fun y hy => (b2 y hy).1, by dsimp only; omega⟩, ⟨a3, b3, fun x hx => (a2 x hx).2, fun y hy => (b2 y hy).2⟩⟩
  apply Array.ext'
  rw [e]; rfl
end Go.Proofs
namespace Go.Proofs
open Go.Vc
set_option maxRecDepth 10000

theorem conf_u8 : ∀ (bs : List Int), conf (List.replicate bs.length (.i .u8)) (bv bs) = true
  | [] => rfl
  | b :: bs => by
    have := conf_u8 bs
    simp only [bv, List.length_cons, List.replicate_succ, List.map_cons, conf, SK.ok, decide_true, Bool.true_and] at this ⊢
    exact this
theorem conf32 {D : List Int} (h : D.length = 32) : conf (skR [(32, .i .u8)]) (bv D).toArray.toList = true := by
  have := conf_u8 D
  rw [h] at this
  simpa [skR] using this
theorem eqc32 (D E : List Int) : eqc (bv D).toArray.toList (bv E).toArray.toList = decide (D = E) := by
  simp only [eqc, bv_inj]
theorem eqA32 {neg : Bool} {D E : List Int} (h1 : D.length = 32) (h2 : E.length = 32) : eqAR neg (skR [(32, .i .u8)]) (.agg (bv D).toArray) (.agg (bv E).toArray) = some (.bool (neg ^^ decide (D = E))) := by
  rw [eqA_a, if_pos ⟨conf32 h1, conf32 h2⟩, eqc32]
theorem eqA_self {D : List Int} (h1 : D.length = 32) : eqAR false (skR [(32, .i .u8)]) (.agg (bv D).toArray) (.agg (bv D).toArray) = some (.bool true) := by
  rw [eqA32 h1 h1, decide_eq_true rfl]; rfl
/-- The digest of the older way. -/
def legG (t : TxV) (i : Int) (bs : List Int) (kind : Int) : List Int :=
  if i < 0 ∨ (t.ins.length : Int) ≤ i ∨ kind % 32 = 3 ∧ (t.outs.length : Int) ≤ i then oneD else dblF (encF { t with ins := if 128 ≤ kind then ((t.ins.mapIdx (legIn i.toNat bs (kind % 32))).drop i.toNat).take 1 else t.ins.mapIdx (legIn i.toNat bs (kind % 32)), outs := outsL t i.toNat (kind % 32) } ++ lowF 4 kind)
theorem legG_len (t : TxV) (i : Int) (bs : List Int) (kind : Int) : (legG t i bs kind).length = 32 := by
  unfold legG; split
  · rfl
  · exact dblF_len _
theorem witF_len (t : TxV) (i : Int) (script : List Int) (value kind : Int) : (witF t i script value kind).length = 32 := by
  unfold witF; split
  · exact dblF_len _
  · rfl
/-- A transaction of few parts. -/
structure TxV.Lm (t : TxV) : Prop where
  ok : t.Ok
  sz : t.Sz
  ins : t.ins.length ≤ 50
  outs : t.outs.length ≤ 50
  inp : ∀ x ∈ t.ins, x.script.length ≤ 1000
  out : ∀ y ∈ t.outs, y.script.length ≤ 1000
theorem TxV.Lm.few {t : TxV} (h : t.Lm) : t.Few 100 1000 := ⟨by have := h.ins; omega, by have := h.outs; omega, h.inp, h.out⟩
theorem TxV.Lm.sm {t : TxV} (h : t.Lm) : t.Sm := ⟨by have := h.ins; omega, by have := h.outs; omega, fun x hx => ⟨by have := h.inp x hx; omega, (h.sz.inp x hx).wit, (h.sz.inp x hx).item⟩, fun y hy => by have := h.out y hy; omega⟩
theorem encF_len {t : TxV} (hok : t.Ok) (h : t.Few 100 1000) : (encF t).length ≤ 300000 := by
  have a := flatI_len (l := t.ins) (m := 1000) (fun x hx => (hok.ins x hx).len) h.iscr
  have b := flatO_len (l := t.outs) (m := 1000) h.oscr
  have c := h.ins
  have d := h.outs
  have e := (sizeF_len (n := (t.ins.length : Int))).2
  have f := (sizeF_len (n := (t.outs.length : Int))).2
  simp only [encF, List.length_append, lowF_len]
  omega
theorem outsL_mem {t : TxV} {n : Nat} {o : Int} {y : TxO} (h : y ∈ outsL t n o) : y ∈ t.outs ∨ y = ⟨-1, []⟩ := by
  unfold outsL at h
  split at h
  · cases h
  · split at h
    · obtain ⟨k, hk, rfl⟩ := List.mem_mapIdx.1 h
      split
      · exact .inr rfl
      · exact .inl (List.mem_of_mem_take (List.getElem_mem hk))
    · exact .inl h
theorem outsL_len (t : TxV) (n : Nat) (o : Int) : (outsL t n o).length ≤ t.outs.length := by
  unfold outsL
  split
  · exact Nat.zero_le _
  · split
    · rw [blankTo_len, List.length_take]; omega
    · exact Nat.le_refl _
theorem legIn_ok {i k : Nat} {bs : List Int} {o : Int} {x : TxI} (hx : x.Ok) (hb : byt bs) : (legIn i bs o k x).Ok := by
  unfold legIn
  split
  · exact ⟨hx.len, hx.prev, hx.idx, hb, hx.seq, hx.wit⟩
  · refine ⟨hx.len, hx.prev, hx.idx, byt_nil, ?_, hx.wit⟩
    dsimp only
    split
    · omega
    · exact hx.seq
theorem legIn_len {i k : Nat} {bs : List Int} {o : Int} {x : TxI} (hb : bs.length ≤ 1000) : (legIn i bs o k x).script.length ≤ 1000 := by
  unfold legIn
  split
  · exact hb
  · exact Nat.zero_le _
theorem legacy2_ok (w : World) (iv ov : Value) (t : TxV) (hT : TxR w iv ov t) (hL : t.Lm) (i : Int) (x : Value) (bs : List Int) (hx : Rd w x bs) (hb : byt bs) (hbl : bs.length ≤ 1000) (kind : Int) (hk : 0 ≤ kind ∧ kind ≤ 255) (hi64 : -9223372036854775808 ≤ i ∧ i ≤ 9223372036854775807) :
    Calls Try.prog 12 #[.agg (txC t iv ov), .int .i64 i, x, .int .u8 kind] w (Ret fun u w' => u = .agg (bv (legG t i bs kind)).toArray ∧ Ext w w') := by
  refine legacy_ok w iv ov t hT hL.ok hL.sm i x bs hx kind hk hi64 fun n hn hin l hl => ?_
  have hml : ∀ z ∈ l, z ∈ t.ins.mapIdx (legIn n bs (kind % 32)) := fun z hz => by
    rcases hl with rfl | rfl
    · exact hz
    · exact List.mem_of_mem_drop (List.mem_of_mem_take hz)
  have hll : l.length ≤ t.ins.length := by
    rcases hl with rfl | rfl
    · rw [List.length_mapIdx]; exact Nat.le_refl _
    · rw [List.length_take, List.length_drop, List.length_mapIdx]; omega
  have hzo : ∀ z ∈ l, z.Ok ∧ z.script.length ≤ 1000 := fun z hz => by
    obtain ⟨k, hk, rfl⟩ := List.mem_mapIdx.1 (hml z hz)
    exact ⟨legIn_ok (hL.ok.ins _ (List.getElem_mem hk)) hb, legIn_len hbl⟩
  have hyo : ∀ y ∈ outsL t n (kind % 32), y.Ok ∧ y.script.length ≤ 1000 := fun y hy => by
    rcases outsL_mem hy with hy | rfl
    · exact ⟨hL.ok.outs y hy, hL.out y hy⟩
    · exact ⟨⟨by dsimp only; omega, byt_nil⟩, Nat.zero_le _⟩
  have hol := outsL_len t n (kind % 32)
  have hi := hL.ins
  have ho := hL.outs
  have h1 : ({ t with ins := l, outs := outsL t n (kind % 32) } : TxV).Ok := ⟨hL.ok.ver, fun z hz => (hzo z hz).1, fun y hy => (hyo y hy).1, hL.ok.lock⟩
  have h2 : ({ t with ins := l, outs := outsL t n (kind % 32) } : TxV).Few 100 1000 := ⟨by dsimp only; omega, by dsimp only; omega, fun z hz => (hzo z hz).2, fun y hy => (hyo y hy).2⟩
  have h3 := encF_len h1 h2
  exact ⟨h1, h2, by omega⟩
theorem witness2_ok (w : World) (iv ov : Value) (t : TxV) (hT : TxR w iv ov t) (hL : t.Lm) (i : Int) (sx : Value) (script : List Int) (hs : Rd w sx script) (hsb : byt script) (hsl : script.length ≤ 1000) (value kind : Int) (hk : 0 ≤ kind ∧ kind ≤ 255) :
    Calls Try.prog 19 #[.agg (txC t iv ov), .int .i64 i, sx, .int .i64 value, .int .u8 kind] w (Ret fun u w' => u = .agg (bv (witF t i script value kind)).toArray ∧ Ext w w') :=
  witness_ok w iv ov t hT hL.ok hL.few i sx script hs hsb hsl value kind hk
/-- What is one's own is read. -/
theorem ListN.toR {α : Type} {R : Nat → World → Array Value → α → Prop} {R' : World → Array Value → α → Prop} {T size m : Nat} {w : World} {v : Value} {l : List α} (h : ListN R T size m w v l) (hR : ∀ c x, R m w c x → R' w c x) : ListR R' size w v l := by
  obtain ⟨cs, a1, a2, a3⟩ := h
  obtain ⟨q, c, f1, f2⟩ := a2.is
  have a4 := a2.mx
  exact ⟨cs, a1, a2.sz, a2.rd, ⟨q, c, by rw [f1, a1], by omega⟩, by omega, fun i x y => hR _ _ (a3 i x y)⟩
theorem txR_of {m : Nat} {w : World} {iv ov : Value} {t : TxV} (h1 : InsN m w iv t.ins) (h2 : OusN m w ov t.outs) : TxR w iv ov t := ⟨ListN.toR h1 fun _ _ h => h.at, ListN.toR h2 fun _ _ h => h.at⟩

theorem TxT.r {m : Nat} {w : World} {iv ov : Value} {t : TxV} (h : TxT m w iv ov t) : TxR w iv ov t := ⟨ListN.toR h.ins fun _ _ h => by obtain ⟨sv, wv, e, h1, h2⟩ := h; exact ⟨sv, wv, e, h1.1, h2.rowR⟩, ListN.toR h.outs fun _ _ h => by obtain ⟨sv, e, h1⟩ := h; exact ⟨sv, e, h1.1⟩⟩
/-! ### What two transactions both sign -/
theorem witF_at {t : TxV} {n : Nat} (bs : List Int) {value kind : Int} (hn : n < t.ins.length) : witF t n bs value kind = dblF (witB t t.ins[n] (witP t kind) (witQ t kind) (witM t n kind) bs value kind) := by
  unfold witF
  rw [dif_pos ⟨by omega, by rw [Int.toNat_natCast]; exact hn⟩]
  rfl
end Go.Proofs
namespace Go.Proofs
open Go.Vc
set_option maxRecDepth 10000

def wyC (i kind : Int) (sx : Value) (value : Int) : Array Value := #[.int .i64 i, .int .u8 kind, sx, .int .i64 value]
theorem txC_flat {t : TxV} {iv ov : Value} {w : World} (hT : TxR w iv ov t) : flat (txC t iv ov) := by
  have hi1 := ListR.one hT.ins
  have ho1 := ListR.one hT.outs
  intro y hy; simp only [txC, List.mem_cons, List.not_mem_nil, or_false] at hy; rcases hy with rfl | rfl | rfl | rfl <;> first | rfl | assumption
theorem wyC_flat {i kind value : Int} {sx : Value} (h : sx.oneCell' = true) : flat (wyC i kind sx value) := by
  intro y hy; simp only [wyC, List.mem_cons, List.not_mem_nil, or_false] at hy; rcases hy with rfl | rfl | rfl | rfl <;> first | rfl | assumption
/-- The arguments. -/
theorem tx_arg {W : World} {v : Value} (h : ArgLiesB bzT Try.prog W 26 v) : ∃ t iv ov, v = .agg (txC t iv ov) ∧ TxR W iv ov t ∧ t.Ok ∧ t.Sz := by
  obtain ⟨cs, rfl, _⟩ := argAgg ty_tx (.inl ⟨_, Try.underlying26⟩) h.1
  obtain ⟨t, iv, ov, e, h1, h2, h3⟩ := tx_of (h.2 6 txT bz_tx ty_tx)
  exact ⟨t, iv, ov, congrArg Value.agg e, h1, h2, h3⟩
def wayT : Tys := .cons (.int .i64) (.cons (.int .u8) (.cons (.sl u8T) (.cons (.int .i64) .nil)))
theorem way_arg {W : World} {v : Value} (h : ArgLiesB bzT Try.prog W 29 v) : ∃ i kind sx value bs, v = .agg (wyC i kind sx value) ∧ (-9223372036854775808 ≤ i ∧ i ≤ 9223372036854775807) ∧ (0 ≤ kind ∧ kind ≤ 255) ∧ Rd W sx bs ∧ byt bs ∧ (-9223372036854775808 ≤ value ∧ value ≤ 9223372036854775807) := by
  obtain ⟨cs, rfl, hl⟩ := argAgg (m := 6) (a := wayT) (by kernel_rfl) (.inl ⟨_, Try.underlying29⟩) h.1
  unfold wayT at hl
  cases e : cs.toList with
  | nil => rw [e] at hl; simp only [LiesAll] at hl
  | cons v1 b =>
  rw [e] at hl
  simp only [LiesAll] at hl
  obtain ⟨k1, h2⟩ := hl
  cases b with
  | nil => simp only [] at h2
  | cons v2 b =>
  simp only [] at h2
  obtain ⟨k2, h2⟩ := h2
  cases b with
  | nil => simp only [] at h2
  | cons v3 b =>
  simp only [] at h2
  obtain ⟨k3, h2⟩ := h2
  cases b with
  | nil => simp only [] at h2
  | cons v4 b =>
  simp only [] at h2
  obtain ⟨k4, rfl⟩ := h2
  simp only [Lies] at k1 k2 k4
  obtain ⟨i, rfl, hi⟩ := k1
  obtain ⟨kind, rfl, hk⟩ := k2
  obtain ⟨value, rfl, hv⟩ := k4
  obtain ⟨bs, hr, hb⟩ := bytes_of k3
  have a1 := wf_int hi
  have a2 := wf_int hk
  have a3 := wf_int hv
  have e1 : IntKind.i64.min = -9223372036854775808 := by decide
  have e2 : IntKind.i64.max = 9223372036854775807 := by decide
  have e3 : IntKind.u8.min = 0 := by decide
  have e4 : IntKind.u8.max = 255 := by decide
  refine ⟨i, kind, v3, value, bs, ?_, by omega, by omega, hr, hb, by omega⟩
  congr 1
  apply Array.ext'
  rw [e]; rfl
theorem put_tx {wj : World} {t : TxV} {iv ov : Value} :
    Ext wj ((wj.alloc (.cells (zc [(1, .int .i32 0), (2, .slice none 0 0), (1, .int .u32 0)]) 26)).putN wj.heap.size 0 (txC t iv ov)) ∧ ((wj.alloc (.cells (zc [(1, .int .i32 0), (2, .slice none 0 0), (1, .int .u32 0)]) 26)).putN wj.heap.size 0 (txC t iv ov)).heap[wj.heap.size]? = some (.cells (txC t iv ov) 26 (0, 0)) :=
  ⟨((Keep.refl _ wj).alloc _).putN _ (by intro hh; exfalso; omega), by rw [heap_putN_eq (heap_new _ _ _ rfl), splice_all (by rw [txC_sz]; rfl)]⟩
end Go.Proofs
namespace Go.Proofs
open Go.Vc
set_option maxRecDepth 10000

theorem short12_ok (w : World) (v : Value) (bs : List Int) (h : Rd w v bs) :
    Calls Try.prog 9 #[v] w (Ret fun u w' => (∀ wz, Rd wz v bs → Rd wz u (bs.take 300)) ∧ w' = w) := by
  refine calls_of_cfg c9_ok (Nat.le_of_ble_eq_true rfl) ?_
  simp only [argE_nil, argE_cons, Nat.zero_add]
  have hlx := h.len
  (refine W_at c9_ok ?_; refine ⟨_, rfl, ?_⟩; simp (disch := first | omega | assumption | rfl | (simp only [vcS] <;> omega) | fail) only [↓vcA, vcB, ↓reduceIte, reduceCtorEq])
  (refine W_at c9_ok ?_; refine ⟨_, rfl, ?_⟩; simp (disch := first | omega | assumption | rfl | (simp only [vcS] <;> omega) | fail) only [↓vcA, vcB, ↓reduceIte, reduceCtorEq, Option.bind_some, hlx])
  by_cases h2 : (300 : Int) < (bs.length : Nat)
  · obtain ⟨⟨q, c, rfl, hc⟩, hm, _⟩ := id h
    have k1 : (0 : Int) ≤ 300 ∧ (300 : Int) ≤ (c : Nat) := by omega
    have k2 : (300 : Int) ≤ (c : Nat) := by omega
    have hcut : ∀ wz, Rd wz (.slice q bs.length c) bs → Rd wz (.slice q 300 c) (bs.take 300) := fun wz hz => by
      have hcut := hz.cut (l := 0) (j := 300) (Nat.zero_le _) (by omega)
      rw [advA_0, Nat.sub_zero, Nat.sub_zero, List.drop_zero] at hcut
      exact hcut
    (refine W_at c9_ok ?_; refine ⟨_, rfl, ?_⟩; simp (disch := first | omega | assumption | rfl | (simp only [vcS] <;> omega) | fail) only [↓vcA, vcB, ↓reduceIte, reduceCtorEq, h2])
    (refine W_at c9_ok ?_; refine ⟨_, rfl, ?_⟩; simp (disch := first | omega | assumption | rfl | (simp only [vcS] <;> omega) | fail) only [↓vcA, vcB, ↓reduceIte, Int.reduceToNat, Option.bind_some, Option.map_some, k1, Nat.sub_zero])
    (refine W_at c9_ok ?_; refine ⟨_, rfl, ?_⟩; simp (disch := first | omega | assumption | rfl | (simp only [vcS] <;> omega) | fail) only [↓vcA, vcB, ↓reduceIte, Option.bind_some, Option.map_some, Ret_returned])
    exact hcut
  · (refine W_at c9_ok ?_; refine ⟨_, rfl, ?_⟩; simp (disch := first | omega | assumption | rfl | (simp only [vcS] <;> omega) | fail) only [↓vcA, vcB, ↓reduceIte, reduceCtorEq, h2])
    (refine W_at c9_ok ?_; refine ⟨_, rfl, ?_⟩; simp (disch := first | omega | assumption | rfl | (simp only [vcS] <;> omega) | fail) only [↓vcA, vcB, ↓reduceIte])
    (refine W_at c9_ok ?_; refine ⟨_, rfl, ?_⟩; simp (disch := first | omega | assumption | rfl | (simp only [vcS] <;> omega) | fail) only [↓vcA, vcB, ↓reduceIte, Option.bind_some, Option.map_some, Ret_returned])
    intro wz hz
    rw [List.take_of_length_le (by omega)]
    exact hz
theorem IP.base {m m' : Nat} {w : World} {c : Array Value} {x : TxI} (h : IP m w c x) (hm : m' ≤ m) : IP m' w c x := by
  obtain ⟨sv, wv, h1, h2, h3⟩ := h
  refine ⟨sv, wv, h1, h2, ?_⟩
  rcases h3 with h3 | ⟨g, o, cap, cs, e, hg, r⟩
  · exact .inl h3
  · exact .inr ⟨g, o, cap, cs, e, Nat.le_trans hm hg, r⟩
set_option maxHeartbeats 1600000 in
theorem few12_ok (w : World) (iv ov : Value) (t : TxV) (hT : TxR w iv ov t) (hok : t.Ok) (hsz : t.Sz) :
    Calls Try.prog 8 #[.agg (txC t iv ov)] w (Ret fun u w' => ∃ t' iv' ov', u = .agg (txC t' iv' ov') ∧ TxT w.heap.size w' iv' ov' t' ∧ t'.Ok ∧ t'.Sz ∧ t'.Lim 5 300 ∧ Ext w w') := by
  refine calls_of_cfg c8_ok (Nat.le_of_ble_eq_true rfl) ?_
  simp only [argE_nil, argE_cons, Nat.zero_add]
  have hfx := txC_flat hT
  have hcx : (Value.agg (txC t iv ov)).cells = txC t iv ov := rfl
  have hzx := txC_sz t iv ov
  (refine W_at c8_ok ?_; refine ⟨_, rfl, ?_⟩; simp (disch := first | omega | assumption | rfl | (simp only [vcS] <;> omega) | fail) only [↓ptV_l, ↓vcA, vcB, ↓reduceIte, Nat.reduceEqDiff, vcM, hcx])
  have hE1 : Ext w (w.alloc (.cells (txC t iv ov) 26)) := (Keep.refl _ w).alloc _
  have c2 : (w.alloc (.cells (txC t iv ov) 26)).heap[w.heap.size]? = some (.cells (txC t iv ov) 26 (0, 0)) := heap_new _ _ _ rfl
  have s1 : (w.alloc (.cells (txC t iv ov) 26)).heap.size = w.heap.size + 1 := size_alloc _ _
  generalize World.alloc w _ = w1 at hE1 c2 s1 ⊢
  have hE2 : Ext w1 (w1.alloc (.cells (zc [(1, .int .i32 0), (2, .slice none 0 0), (1, .int .u32 0)]) 26)) := (Keep.refl _ w1).alloc _
  have c3 : (w1.alloc (.cells (zc [(1, .int .i32 0), (2, .slice none 0 0), (1, .int .u32 0)]) 26)).heap[w.heap.size + 1]? = some (.cells (zc [(1, .int .i32 0), (2, .slice none 0 0), (1, .int .u32 0)]) 26 (0, 0)) := heap_new _ _ _ s1.symm
  generalize World.alloc w1 _ = w2 at hE2 c3 ⊢
  have c22 := hE2.at c2 (fun h => h)
  have hE02 := hE1.ext hE2
  have hsz02 := hE02.size
  have r4 : rdO (some (.cells (txC t iv ov) 26 (0, 0))) 0 4 = some (txC t iv ov) := rdO_all _ _ _ _ rfl
  generalize hp3 : w.heap.size + 1 = p3 at c3 ⊢
  (refine W_at c8_ok ?_; refine ⟨_, rfl, ?_⟩; simp (disch := first | omega | assumption | rfl | (simp only [vcS] <;> omega) | fail) only [↓ptV_l, ↓vcA, vcB, ↓reduceIte, Nat.reduceEqDiff, Option.bind_some, Option.map_some, vcM, c22, r4])
  refine callV_ret (few_ok w2 iv ov t 5 300 (hT.ext hE02) hok hsz (by omega) (by omega)) ?_
  rintro _ w4 ⟨t', iv', ov', rfl, hT4, hok4, hsz4, hL4, hE4⟩
  have c34 := hE4.at c3 (fun h => h)
  have hzt := txC_sz t' iv' ov'
  have z4 : (zc [(1, Value.int .i32 0), (2, .slice none 0 0), (1, .int .u32 0)]).size = 4 := rfl
  have o4 : okO (some (.cells (zc [(1, .int .i32 0), (2, .slice none 0 0), (1, .int .u32 0)]) 26 (0, 0))) 0 4 = True := by simp only [okO, z4]; simp
  first | (simp (disch := first | omega | assumption | rfl | (simp only [vcS] <;> omega) | fail) only [↓vcA, vcB, vcM, c34, hzt, o4]) | skip
  refine ⟨txC_flat hT4.r, ?_⟩
  have hk5 : Keep (fun g => g = p3) w4 (w4.putN p3 0 (txC t' iv' ov')) := (Keep.refl _ w4).putN _ fun _ => rfl
  have hT5 := hT4.keepT hk5 fun g hg => by subst hg; exact ⟨_, _, c34, by decide, by decide, by decide, by decide⟩
  have d3 : (w4.putN p3 0 (txC t' iv' ov')).heap[p3]? = some (.cells (txC t' iv' ov') 26 (0, 0)) := by rw [heap_putN_eq c34, splice_all (by rw [z4, hzt])]
  have r5 : rdO (some (.cells (txC t' iv' ov') 26 (0, 0))) 0 4 = some (txC t' iv' ov') := rdO_all _ _ _ _ rfl
  have hE5 : Ext w (w4.putN p3 0 (txC t' iv' ov')) := (hE02.ext hE4).trans hk5 fun g hg e => by omega
  (refine W_at c8_ok ?_; refine ⟨_, rfl, ?_⟩; simp (disch := first | omega | assumption | rfl | (simp only [vcS] <;> omega) | fail) only [↓vcA, vcB, ↓reduceIte, Option.bind_some, Option.map_some, vcM, d3, r5, Ret_returned])
  exact ⟨t', iv', ov', rfl, ⟨ListN.imp hT5.ins hsz02 fun c x _ h => IP.base h hsz02, ListN.imp hT5.outs hsz02 fun c y _ h => h⟩, hok4, hsz4, hL4, hE5⟩
def knownF (k : Int) : Bool := decide (1 ≤ k % 128 ∧ k % 128 ≤ 3)
theorem andNot128 {x : Int} (h : 0 ≤ x ∧ x ≤ 255) : IntKind.u8.wrap (((BitVec.ofInt IntKind.u8.bits x &&& ~~~BitVec.ofInt IntKind.u8.bits 128).toNat : Nat) : Int) = x % 128 := by
  obtain ⟨n, rfl⟩ := Int.eq_ofNat_of_zero_le h.1
  have hd : ∀ n : Fin 256, IntKind.u8.wrap (((BitVec.ofInt IntKind.u8.bits ((n.val : Nat) : Int) &&& ~~~BitVec.ofInt IntKind.u8.bits 128).toNat : Nat) : Int) = ((n.val : Nat) : Int) % 128 := by decide +kernel
  exact hd ⟨n, by omega⟩
theorem known_ok (w : World) (k : Int) (hk : 0 ≤ k ∧ k ≤ 255) : Calls Try.prog 16 #[.int .u8 k] w (Ret fun u w' => u = .bool (knownF k) ∧ w' = w) := by
  refine calls_of_cfg c16_ok (Nat.le_of_ble_eq_true rfl) ?_
  simp only [argE_nil, argE_cons, Nat.zero_add]
  have a1 := andNot128 hk
  (refine W_at c16_ok ?_; refine ⟨_, rfl, ?_⟩; simp (disch := first | omega | assumption | rfl | (simp only [vcS] <;> omega) | fail) only [↓vcA, vcB, ↓reduceIte, reduceCtorEq])
  (refine W_at c16_ok ?_; refine ⟨_, rfl, ?_⟩; simp (disch := first | omega | assumption | rfl | (simp only [vcS] <;> omega) | fail) only [↓vcA, vcB, ↓reduceIte, Option.bind_some, a1])
  unfold knownF
  by_cases h1 : 1 ≤ k % 128
  · by_cases h2 : k % 128 ≤ 3
    · (refine W_at c16_ok ?_; refine ⟨_, rfl, ?_⟩; simp (disch := first | omega | assumption | rfl | (simp only [vcS] <;> omega) | fail) only [↓vcA, vcB, ↓reduceIte, Nat.reduceEqDiff, Option.bind_some, h1, h2])
      (refine W_at c16_ok ?_; refine ⟨_, rfl, ?_⟩; simp (disch := first | omega | assumption | rfl | (simp only [vcS] <;> omega) | fail) only [↓vcA, vcB, ↓reduceIte, Option.bind_some, Option.map_some, Ret_returned])
      all_goals simp [h1, h2]
    · (refine W_at c16_ok ?_; refine ⟨_, rfl, ?_⟩; simp (disch := first | omega | assumption | rfl | (simp only [vcS] <;> omega) | fail) only [↓vcA, vcB, ↓reduceIte, Nat.reduceEqDiff, Option.bind_some, h1, h2])
      (refine W_at c16_ok ?_; refine ⟨_, rfl, ?_⟩; simp (disch := first | omega | assumption | rfl | (simp only [vcS] <;> omega) | fail) only [↓vcA, vcB, ↓reduceIte, Option.bind_some, Option.map_some, Ret_returned])
      all_goals simp [h1, h2]
  · (refine W_at c16_ok ?_; refine ⟨_, rfl, ?_⟩; simp (disch := first | omega | assumption | rfl | (simp only [vcS] <;> omega) | fail) only [↓vcA, vcB, ↓reduceIte, Nat.reduceEqDiff, Option.bind_some, h1])
    (refine W_at c16_ok ?_; refine ⟨_, rfl, ?_⟩; simp (disch := first | omega | assumption | rfl | (simp only [vcS] <;> omega) | fail) only [↓vcA, vcB, ↓reduceIte, Option.bind_some, Option.map_some, Ret_returned])
    all_goals simp []
/-! ### The fixed fact -/
def txA : TxV := ⟨0, [⟨List.replicate 32 0, 0, [], 0, []⟩], [], 0⟩
theorem txA_lm : txA.Lm := by
  have hI : ∀ x ∈ txA.ins, x = ⟨List.replicate 32 0, 0, [], 0, []⟩ := fun x hx => by simpa [txA] using hx
  refine ⟨⟨by decide, fun x hx => ?_, fun y hy => (by cases hy), by decide⟩, ⟨by decide, by decide, fun x hx => ?_, fun y hy => (by cases hy)⟩, by decide, by decide, fun x hx => ?_, fun y hy => (by cases hy)⟩
  · rw [hI x hx]; exact ⟨rfl, fun b hb => (by have := List.eq_of_mem_replicate hb; omega), by decide, byt_nil, by decide, fun b hb => (by cases hb)⟩
  · rw [hI x hx]; exact ⟨by decide, by decide, fun p hp => (by cases hp)⟩
  · rw [hI x hx]; decide
theorem legA_3 : legG txA 0 [] 3 = oneD := by
  unfold legG
  rw [if_pos (.inr (.inr ⟨by decide, by decide⟩))]
theorem legA_1 : legG txA 0 [] 1 ≠ oneD := by
  decide +kernel
end Go.Proofs
namespace Go.Proofs
open Go.Vc
set_option maxRecDepth 10000

section
variable {t u : TxV} {n : Nat} {kind : Int}
theorem take1_drop {α : Type} {l : List α} {n : Nat} (h : n < l.length) : (l.drop n).take 1 = [l[n]] := by
  rw [List.drop_eq_getElem_cons h]; rfl
end
end Go.Proofs
namespace Go.Proofs
open Go.Vc
set_option maxRecDepth 10000

set_option maxHeartbeats 1600000 in
theorem rplace_ok (w : World) (prev : List Int) (idx : Int) (hp : prev.length = 32) (hi : 0 ≤ idx ∧ idx ≤ 4294967295) :
    Calls Try.prog 45 #[.agg (pC prev idx)] w (Ret fun u w' => New w w' u (prev ++ lowF 4 idx)) := by
  refine calls_of_cfg c45_ok (Nat.le_of_ble_eq_true rfl) ?_
  simp only [argE_nil, argE_cons, Nat.zero_add]
  have hf := pC_flat prev idx
  have hc : (Value.agg (pC prev idx)).cells = pC prev idx := rfl
  have hz := pC_size hp idx
  (refine W_at c45_ok ?_; refine ⟨_, rfl, ?_⟩; simp (disch := first | omega | assumption | rfl | (simp only [vcS] <;> omega) | fail) only [↓ptV_l, ↓vcA, vcB, ↓reduceIte, Nat.reduceEqDiff, hc])
  have hE : Ext w (w.alloc (.cells (pC prev idx) 47)) := (Keep.refl _ w).alloc _
  have h3 : (w.alloc (.cells (pC prev idx) 47)).heap[w.heap.size]? = some (.cells (pC prev idx) 47 (0, 0)) := heap_new _ _ _ rfl
  generalize World.alloc _ _ = w1 at hE h3 ⊢
  generalize w.heap.size = p3 at h3 ⊢
  have c32 := pC_32 hp idx
  have hw : IntKind.u64.wrap idx = idx := by rw [wrap_u64]; omega
  have hEd : Ext w1 w1.drew := (Keep.refl _ w1).drew
  have h3d := hEd.at h3 (fun h => h)
  have hN0 : New w1.drew (w1.drew.alloc (.cells #[] 5)) (.slice (some ⟨w1.heap.size, 0, none⟩) 0 0) [] := New.lit (w := w1.drew) (bs := []) (Nat.zero_le _)
  have h3e := hN0.ext.at h3d (fun h => h)
  (refine W_at c45_ok ?_; refine ⟨_, rfl, ?_⟩; simp (disch := first | omega | assumption | rfl | (simp only [vcS] <;> omega) | fail) only [↓vcL1, ↓vcA, vcB, ↓reduceIte, Nat.reduceEqDiff, Option.bind_some, List.length_nil, vcM, h3, h3e, c32, hw, Nat.sub_zero])
  refine appN hN0 (pC_rd hp h3e) (by simp; omega) fun v1 w2 hN1 _ _ => ?_
  have h31 := hN1.ext.at h3d (fun h => h)
  refine ⟨by rw [h31]; exact c32, ?_⟩
  rw [List.nil_append] at hN1
  simp (disch := first | omega | assumption | rfl | (simp only [vcS] <;> omega) | fail) only [↓vcL2, ptS1_eq, ↓vcA, vcB, ↓reduceIte, Nat.reduceEqDiff, Option.bind_some, Option.map_some]
  refine callV_ret (low_ok w2 idx 4 (by omega) (by omega)) ?_
  intro v3 w3 hL
  simp (disch := first | omega | assumption | rfl | (simp only [vcS] <;> omega) | fail) only [↓vcL1, ptS2_eq, ↓vcA, vcB, ↓reduceIte, Nat.reduceEqDiff]
  refine appN (hN1.keep hL.ext) hL.own.rd (by rw [lowF_len]; omega) fun v4 w4 hN4 _ _ => ?_
  first | (simp (disch := first | omega | assumption | rfl | (simp only [vcS] <;> omega) | fail) only [ptS1_eq, ↓vcA, vcB, ↓reduceIte]) | skip
  (refine W_at c45_ok ?_; refine ⟨_, rfl, ?_⟩; simp (disch := first | omega | assumption | rfl | (simp only [vcS] <;> omega) | fail) only [↓vcA, vcB, ↓reduceIte, Option.bind_some, Option.map_some, Ret_returned])
  exact (hN4.pre hEd).pre hE
/-- Two own slices, side by side. -/
structure Two (w0 w : World) (a b : Value) (xs bs : List Int) : Prop where
  na : New w0 w a xs
  nb : New w0 w b bs
  dis : ∀ g, blk a g → ¬ blk b g
theorem New.lt {w0 w : World} {a : Value} {xs : List Int} (h : New w0 w a xs) {g : Nat} (hg : blk a g) : g < w.heap.size := by
  obtain ⟨c, hc⟩ := row_type h.own hg
  exact lt_of_heap hc
theorem Two.grow {w0 w w' : World} {a b : Value} {xs bs : List Int} (h : Two w0 w a b xs bs) (k : Ext w w') : Two w0 w' a b xs bs := ⟨h.na.keep k, h.nb.keep k, h.dis⟩
theorem Two.swap {w0 w : World} {a b : Value} {xs bs : List Int} (h : Two w0 w a b xs bs) : Two w0 w b a bs xs := ⟨h.nb, h.na, fun g h1 h2 => h.dis g h2 h1⟩
theorem Two.app {w0 w w' : World} {a a' b : Value} {xs xs' bs : List Int} (h : Two w0 w a b xs bs) (h1 : New w0 w' a' xs') (h2 : Keep (blk a) w w') (h3 : ∀ g, blk a' g → blk a g ∨ w.heap.size ≤ g) : Two w0 w' a' b xs' bs :=
  ⟨h1, ⟨h.nb.own.keep h2 fun g hb ha => h.dis g ha hb, h1.ext, h.nb.new⟩, fun g ha hb => by
    rcases h3 g ha with h4 | h4
    · exact h.dis g h4 hb
    · have := h.nb.lt hb; omega⟩
/-- The outputs that are digested, so far. -/
def madeF (l : List TxO) (n : Nat) (o : Int) : Nat → List Int
  | 0 => []
  | i + 1 => madeF l n o i ++ if o = 3 ∧ i ≠ n then [] else (l[i]?.map encO).getD []
theorem madeF_no {l : List TxO} {n : Nat} {o : Int} (h : o ≠ 3) : ∀ i, i ≤ l.length → madeF l n o i = (l.take i).flatMap encO
  | 0, _ => by simp [madeF]
  | i + 1, hi => by
    rw [madeF, madeF_no h i (by omega), if_neg fun k => h k.1, take_flat encO (by omega), List.getElem?_eq_getElem (by omega)]; rfl
theorem madeF_3 {l : List TxO} {n : Nat} : ∀ i, i ≤ l.length → madeF l n 3 i = if h : n < i ∧ n < l.length then encO l[n] else []
  | 0, _ => by simp [madeF]
  | i + 1, hi => by
    rw [madeF, madeF_3 i (by omega)]
    by_cases h : i = n
    · subst h
      rw [dif_neg (by omega), if_neg (by simp), dif_pos (by omega), List.getElem?_eq_getElem (by omega)]; rfl
    · rw [if_pos ⟨rfl, h⟩, List.append_nil]
      by_cases h2 : n < i
      · rw [dif_pos (by omega), dif_pos (by omega)]
      · rw [dif_neg (by omega), dif_neg (by omega)]
theorem madeF_len {l : List TxO} {n : Nat} {o : Int} (hs : ∀ y ∈ l, y.script.length ≤ 1000) : ∀ i, (madeF l n o i).length ≤ 1017 * i
  | 0 => by simp [madeF]
  | i + 1 => by
    have ih := madeF_len (n := n) (o := o) hs i
    rw [madeF, List.length_append]
    have : (if o = 3 ∧ i ≠ n then [] else (l[i]?.map encO).getD []).length ≤ 1017 := by
      split
      · simp
      · cases h : l[i]? with
        | none => simp
        | some y =>
          have h1 := encO_len y
          have h2 := hs y (List.mem_of_getElem? h)
          simp only [Option.map_some, Option.getD_some]; omega
    omega
theorem madeF_all {t : TxV} {n : Nat} {kind : Int} (h : kind % 32 = 3 → n < t.outs.length) : madeF t.outs n (kind % 32) t.outs.length = (witS t n kind).flatMap encO := by
  unfold witS
  by_cases h3 : kind % 32 = 3
  · have h4 := h h3
    rw [h3, madeF_3 _ (Nat.le_refl _), dif_pos ⟨h4, h4⟩, if_pos ⟨rfl, h4⟩, take1_drop h4]; simp
  · rw [if_neg fun k => h3 k.1, madeF_no h3 _ (Nat.le_refl _), List.take_length]
theorem lowF_kind {k : Int} (hk : 0 ≤ k ∧ k ≤ 255) : lowF 4 k = [k, 0, 0, 0] := by
  simp only [lowF]
  have a1 : k % 256 = k := by omega
  have a2 : k / 256 = 0 := by omega
  rw [a1, a2]; rfl
theorem outs12_ok (w : World) (k : Int) (hk : 0 ≤ k ∧ k ≤ 255) : Calls Try.prog 31 #[.int .u8 k] w (Ret fun u w' => u = .int .i64 (k % 32) ∧ w' = w) := by
  refine calls_of_cfg c31_ok (Nat.le_of_ble_eq_true rfl) ?_
  simp only [argE_nil, argE_cons, Nat.zero_add]
  have a1 : k.tmod 32 = k % 32 := Int.tmod_eq_emod_of_nonneg hk.1
  have a2 : IntKind.i64.wrap (k % 32) = k % 32 := wrap_i64 (by omega) (by omega)
  (refine W_at c31_ok ?_; refine ⟨_, rfl, ?_⟩; simp (disch := first | omega | assumption | rfl | (simp only [vcS] <;> omega) | fail) only [↓vcA, vcB, ↓reduceIte, reduceCtorEq])
  (refine W_at c31_ok ?_; refine ⟨_, rfl, ?_⟩; simp (disch := first | omega | assumption | rfl | (simp only [vcS] <;> omega) | fail) only [↓vcA, vcB, ↓reduceIte, Int.reduceEq, Option.bind_some, a1, a2])
  (refine W_at c31_ok ?_; refine ⟨_, rfl, ?_⟩; simp (disch := first | omega | assumption | rfl | (simp only [vcS] <;> omega) | fail) only [↓vcA, vcB, ↓reduceIte, Option.bind_some, Option.map_some, Ret_returned])
/-- Three digests, each in a block. -/
structure RW (wB wj : World) (p17 p18 p19 : Nat) (P Q M : List Int) : Prop where
  ext : Ext wB wj
  h17 : wj.heap[p17]? = some (.cells (bv P).toArray 35 (0, 0))
  h18 : wj.heap[p18]? = some (.cells (bv Q).toArray 35 (0, 0))
  h19 : wj.heap[p19]? = some (.cells (bv M).toArray 35 (0, 0))
  l17 : wB.heap.size ≤ p17
  l18 : wB.heap.size ≤ p18
  l19 : wB.heap.size ≤ p19
  n1 : p17 ≠ p18
  n2 : p17 ≠ p19
  n3 : p18 ≠ p19
  z1 : P.length = 32
  z2 : Q.length = 32
  z3 : M.length = 32
section
variable {wB wj wk : World} {p17 p18 p19 : Nat} {P Q M : List Int}
theorem RW.go (h : RW wB wj p17 p18 p19 P Q M) (k : Ext wj wk) : RW wB wk p17 p18 p19 P Q M := ⟨h.ext.ext k, k.at h.h17 (fun h => h), k.at h.h18 (fun h => h), k.at h.h19 (fun h => h), h.l17, h.l18, h.l19, h.n1, h.n2, h.n3, h.z1, h.z2, h.z3⟩
theorem put32 {g : Nat} {P P' : List Int} {T : TypeId} (h : wj.heap[g]? = some (.cells (bv P).toArray T (0, 0))) (hp : P.length = 32) (hp' : P'.length = 32) : (wj.putN g 0 (bv P').toArray).heap[g]? = some (.cells (bv P').toArray T (0, 0)) := by
  rw [heap_putN_eq h, splice_all (by rw [bva_size, bva_size, hp, hp'])]
theorem ok32 {P : List Int} {T : TypeId} (hp : P.length = 32) : okO (some (.cells (bv P).toArray T (0, 0))) 0 32 = True := by
  have : (bv P).toArray.size = 32 := by rw [bva_size, hp]
  simp only [okO, this]; simp
theorem RW.put17 (h : RW wB wj p17 p18 p19 P Q M) {P' : List Int} (hp : P'.length = 32) : RW wB (wj.putN p17 0 (bv P').toArray) p17 p18 p19 P' Q M := by
  have hk : Keep (fun g => g = p17) wj (wj.putN p17 0 (bv P').toArray) := (Keep.refl _ wj).putN _ fun _ => rfl
  have := h.l17
  exact ⟨h.ext.trans hk fun g hg e => by omega, put32 h.h17 h.z1 hp, hk.at h.h18 (Ne.symm h.n1), hk.at h.h19 (Ne.symm h.n2), h.l17, h.l18, h.l19, h.n1, h.n2, h.n3, hp, h.z2, h.z3⟩
theorem RW.put18 (h : RW wB wj p17 p18 p19 P Q M) {P' : List Int} (hp : P'.length = 32) : RW wB (wj.putN p18 0 (bv P').toArray) p17 p18 p19 P P' M := by
  have hk : Keep (fun g => g = p18) wj (wj.putN p18 0 (bv P').toArray) := (Keep.refl _ wj).putN _ fun _ => rfl
  have := h.l18
  exact ⟨h.ext.trans hk fun g hg e => by omega, hk.at h.h17 h.n1, put32 h.h18 h.z2 hp, hk.at h.h19 (Ne.symm h.n3), h.l17, h.l18, h.l19, h.n1, h.n2, h.n3, h.z1, hp, h.z3⟩
theorem RW.put19 (h : RW wB wj p17 p18 p19 P Q M) {P' : List Int} (hp : P'.length = 32) : RW wB (wj.putN p19 0 (bv P').toArray) p17 p18 p19 P Q P' := by
  have hk : Keep (fun g => g = p19) wj (wj.putN p19 0 (bv P').toArray) := (Keep.refl _ wj).putN _ fun _ => rfl
  have := h.l19
  exact ⟨h.ext.trans hk fun g hg e => by omega, hk.at h.h17 h.n2, hk.at h.h18 h.n3, put32 h.h19 h.z3 hp, h.l17, h.l18, h.l19, h.n1, h.n2, h.n3, h.z1, h.z2, hp⟩
theorem rd32 {g : Nat} {P : List Int} {T : TypeId} (h : wj.heap[g]? = some (.cells (bv P).toArray T (0, 0))) (hp : P.length = 32) : Rd wj (.slice (some ⟨g, 0, none⟩) 32 32) P := by
  have h1 := arr_rd (bs := P) h (by rw [hp]; decide)
  rw [hp] at h1
  exact h1
end
end Go.Proofs
namespace Go.Proofs
open Go.Vc
set_option maxRecDepth 10000

set_option maxHeartbeats 3200000 in
theorem rw_ins (Q : Ending → World → Prop) (w0 : World) (p5 p10 n : Nat) (t : TxV) (iv ov sx : Value) (value kind : Int) (h5 : w0.heap[p5]? = some (.cells (txC t iv ov) 26 (0, 0))) (hI : InsR w0 iv t.ins) (hok : ∀ x ∈ t.ins, x.Ok) (hn : t.ins.length ≤ 100)
    (done : ∀ wj a b tl, Two w0 wj a b (t.ins.flatMap plF) (t.ins.flatMap sqF) → W Try.prog Q 20 26 ((1, .int .i64 (n : Nat)) :: (2, sx) :: (3, .int .i64 value) :: (4, .int .u8 kind) :: (5, .pointer (some ⟨p5, 0, none⟩)) :: (10, .pointer (some ⟨p10, 0, none⟩)) :: (11, .int .i64 (kind % 32)) :: (12, a) :: (13, b) :: (14, .slice none 0 0) :: tl) wj) :
    ∀ (k i : Nat) (wj : World) (a b : Value) (tl : Env), i + k = t.ins.length → Two w0 wj a b ((t.ins.take i).flatMap plF) ((t.ins.take i).flatMap sqF) →
      W Try.prog Q 20 32 ((1, .int .i64 (n : Nat)) :: (2, sx) :: (3, .int .i64 value) :: (4, .int .u8 kind) :: (5, .pointer (some ⟨p5, 0, none⟩)) :: (10, .pointer (some ⟨p10, 0, none⟩)) :: (11, .int .i64 (kind % 32)) :: (12, a) :: (13, b) :: (14, .slice none 0 0) :: (15, .int .i64 (i : Nat)) :: tl) wj := by
  have hlI := hI.len
  have t1 : (txC t iv ov)[1]? = some iv := rfl
  intro k
  induction k with
  | zero =>
    intro i wj a b tl hi hP
    obtain rfl : i = t.ins.length := by omega
    rw [List.take_length] at hP
    have hno : ¬ ((t.ins.length : Nat) : Int) < (t.ins.length : Nat) := by omega
    have h5j := hP.na.ext.at h5 (fun h => h)
    (refine W_at c20_ok ?_; refine ⟨_, rfl, ?_⟩; simp (disch := first | omega | assumption | rfl | (simp only [vcS] <;> omega) | fail) only [↓vcA, vcB, ↓reduceIte, Nat.reduceEqDiff, Option.bind_some, vcM, h5j, t1, hlI, hno])
    (refine W_at c20_ok ?_; refine ⟨_, rfl, ?_⟩; simp (disch := first | omega | assumption | rfl | (simp only [vcS] <;> omega) | fail) only [↓vcA, vcB, ↓reduceIte, Nat.reduceEqDiff])
    exact done wj a b _ hP
  | succ k ih =>
    intro i wj a b tl hi hP
    have hil : i < t.ins.length := by omega
    have hlt : ((i : Nat) : Int) < (t.ins.length : Nat) := by omega
    have b1 : 0 ≤ ((i : Nat) : Int) ∧ ((i : Nat) : Int) < (t.ins.length : Nat) := by omega
    have hwi : IntKind.i64.wrap (((i : Nat) : Int) + 1) = ((i + 1 : Nat) : Int) := wrap_i64 (by omega) (by omega)
    have h5j := hP.na.ext.at h5 (fun h => h)
    (refine W_at c20_ok ?_; refine ⟨_, rfl, ?_⟩; simp (disch := first | omega | assumption | rfl | (simp only [vcS] <;> omega) | fail) only [↓vcA, vcB, ↓reduceIte, Nat.reduceEqDiff, Option.bind_some, vcM, h5j, t1, hlI, hlt])
    (refine W_at c20_ok ?_; refine ⟨_, rfl, ?_⟩; simp (disch := first | omega | assumption | rfl | (simp only [vcS] <;> omega) | fail) only [↓vcA, vcB, ↓reduceIte, Nat.reduceEqDiff])
    obtain ⟨bb, o, c, cs, ev, hr0, hcs, sv, wv, ecs, hsvW, hwvW⟩ := hI.at hil
    have hx := hok _ (List.getElem_mem hil)
    have htk1 := take_flat plF hil
    have htk2 := take_flat sqF hil
    have hb1 := plF_len (l := t.ins.take i) (fun x hx => (hok x (List.mem_of_mem_take hx)).len)
    have hb2 := sqF_len (t.ins.take i)
    have hbl : (t.ins.take i).length ≤ 100 := by rw [List.length_take]; omega
    have hro : ∀ wz, Ext w0 wz → rdO wz.heap[bb]? (o + i * 36) 33 = some (pC t.ins[i].prev t.ins[i].idx) ∧ cellO wz.heap[bb]? (o + i * 36 + 34) = some (.int .u32 t.ins[i].seq) := fun wz hz => by
      have hr := rdO_ext' hz hr0
      subst ecs
      have s36 := iC_size hx.len sv wv
      refine ⟨?_, by rw [rdO_cell hr (by omega), iC_34 hx.len]⟩
      cases hg : wz.heap[bb]? with
      | none => rw [hg] at hr; cases hr
      | some ob =>
        rw [hg] at hr
        cases ob with
        | cells cur T fz =>
          simp only [rdO] at hr ⊢
          split at hr
          · rw [if_pos (by omega)]
            have e := Option.some.inj hr
            have e2 : cur.extract (o + i * 36) (o + i * 36 + 33) = (cur.extract (o + i * 36) (o + i * 36 + 36)).extract 0 33 := by
              rw [Array.extract_extract]; congr 1; omega
            rw [e2, e, iC_pC hx.len]
          · cases hr
        | _ => cases hr
    generalize t.ins[i] = y at hx htk1 htk2 hro
    have hov := ev
    have t1' : (txC t iv ov)[1]? = some (.slice (some ⟨bb, o, none⟩) t.ins.length c) := by rw [t1, ev]
    have hr1 := (hro wj hP.na.ext).1
    have hs64 : IntKind.u64.wrap y.seq = y.seq := by have := hx.seq; rw [wrap_u64]; omega
    (refine W_at c20_ok ?_; refine ⟨_, rfl, ?_⟩; simp (disch := first | omega | assumption | rfl | (simp only [vcS] <;> omega) | fail) only [↓ptV_l, ↓vcA, vcB, ↓reduceIte, Nat.reduceEqDiff, Option.bind_some, Option.map_some, vcM, h5j, t1', b1, Int.toNat_natCast, hr1])
    refine callV_ret (rplace_ok wj y.prev y.idx hx.len hx.idx) ?_
    intro u wk hu
    have hPk := hP.grow hu.ext
    refine appN hPk.na hu.own.rd (by simp only [List.length_append, lowF_len, hx.len]; omega) fun v' w' h1 h2 h3 => ?_
    first | (simp (disch := first | omega | assumption | rfl | (simp only [vcS] <;> omega) | fail) only [↓ptV_l, ↓vcA, vcB, ↓vcD, vcE, ↓reduceIte, Nat.reduceEqDiff, Nat.reduceAdd, Nat.reduceMul, Nat.reduceLeDiff, Int.reduceLE, Int.reduceLT, Int.reduceEq, Int.reduceToNat, Int.reduceAdd, Int.reduceSub, Int.reduceMul, Int.reduceNeg, reduceCtorEq, Option.bind_some, Option.map_some, List.length_cons, List.length_nil, vcM, List.getElem?_toArray, List.getElem?_cons_zero, List.getElem?_cons_succ]) | skip
    have hP2 := hPk.app h1 h2 h3
    have h52 := hP2.na.ext.at h5 (fun h => h)
    have hr2 := (hro w' hP2.na.ext).2
    (refine W_at c20_ok ?_; refine ⟨_, rfl, ?_⟩; simp (disch := first | omega | assumption | rfl | (simp only [vcS] <;> omega) | fail) only [↓ptV_l, ↓vcA, vcB, ↓reduceIte, Nat.reduceEqDiff, Option.bind_some, Option.map_some, vcM, h52, t1', b1, Int.toNat_natCast, hr2, hs64])
    refine callV_ret (low_ok w' y.seq 4 (by have := hx.seq; omega) (by omega)) ?_
    intro u2 w2 hu2
    have hP3 := (hP2.grow hu2.ext).swap
    refine appN hP3.na hu2.own.rd (by rw [lowF_len]; omega) fun v3 w3 k1 k2 k3 => ?_
    first | (simp (disch := first | omega | assumption | rfl | (simp only [vcS] <;> omega) | fail) only [↓ptV_l, ↓vcA, vcB, ↓vcD, vcE, ↓reduceIte, Nat.reduceEqDiff, Nat.reduceAdd, Nat.reduceMul, Nat.reduceLeDiff, Int.reduceLE, Int.reduceLT, Int.reduceEq, Int.reduceToNat, Int.reduceAdd, Int.reduceSub, Int.reduceMul, Int.reduceNeg, reduceCtorEq, Option.bind_some, Option.map_some, List.length_cons, List.length_nil, vcM, List.getElem?_toArray, List.getElem?_cons_zero, List.getElem?_cons_succ]) | skip
    have hP4 := (hP3.app k1 k2 k3).swap
    (refine W_at c20_ok ?_; refine ⟨_, rfl, ?_⟩; simp (disch := first | omega | assumption | rfl | (simp only [vcS] <;> omega) | fail) only [↓vcA, vcB, ↓reduceIte, Nat.reduceEqDiff, Option.bind_some, hwi])
    (refine W_at c20_ok ?_; refine ⟨_, rfl, ?_⟩; simp (disch := first | omega | assumption | rfl | (simp only [vcS] <;> omega) | fail) only [vcB])
    refine ih (i + 1) w3 v' v3 _ (by omega) ?_
    rw [htk1, htk2]
    exact hP4
structure Three (w0 w : World) (a b c : Value) (xs ys zs : List Int) : Prop where
  na : New w0 w a xs
  nb : New w0 w b ys
  nc : New w0 w c zs
  dac : ∀ g, blk c g → ¬ blk a g
  dbc : ∀ g, blk c g → ¬ blk b g
theorem Three.grow {w0 w w' : World} {a b c : Value} {xs ys zs : List Int} (h : Three w0 w a b c xs ys zs) (k : Ext w w') : Three w0 w' a b c xs ys zs := ⟨h.na.keep k, h.nb.keep k, h.nc.keep k, h.dac, h.dbc⟩
theorem Three.app {w0 w w' : World} {a b c c' : Value} {xs ys zs zs' : List Int} (h : Three w0 w a b c xs ys zs) (h1 : New w0 w' c' zs') (h2 : Keep (blk c) w w') (h3 : ∀ g, blk c' g → blk c g ∨ w.heap.size ≤ g) : Three w0 w' a b c' xs ys zs' := by
  have x1 := Two.app ⟨h.nc, h.na, h.dac⟩ h1 h2 h3
  have x2 := Two.app ⟨h.nc, h.nb, h.dbc⟩ h1 h2 h3
  exact ⟨x1.nb, x2.nb, h1, x1.dis, x2.dis⟩
theorem Two.three {w0 w : World} {a b : Value} {xs ys : List Int} (h : Two w0 w a b xs ys) : Three w0 w a b (.slice none 0 0) xs ys [] := ⟨h.na, h.nb, ⟨Own1.nil w, h.na.ext, fun g hg => (by cases hg)⟩, fun g hg => (by cases hg), fun g hg => (by cases hg)⟩
set_option maxHeartbeats 3200000 in
theorem rw_outs (Q : Ending → World → Prop) (w0 : World) (p5 p10 n : Nat) (t : TxV) (iv ov sx a b : Value) (value kind : Int) (xs ys : List Int) (h5 : w0.heap[p5]? = some (.cells (txC t iv ov) 26 (0, 0))) (hO : OusR w0 ov t.outs) (hok : ∀ y ∈ t.outs, y.Ok) (hn : t.outs.length ≤ 100) (hs : ∀ y ∈ t.outs, y.script.length ≤ 1000) (hk : 0 ≤ kind ∧ kind ≤ 255)
    (done : ∀ wj c tl, Three w0 wj a b c xs ys (madeF t.outs n (kind % 32) t.outs.length) → W Try.prog Q 20 17 ((1, .int .i64 (n : Nat)) :: (2, sx) :: (3, .int .i64 value) :: (4, .int .u8 kind) :: (5, .pointer (some ⟨p5, 0, none⟩)) :: (10, .pointer (some ⟨p10, 0, none⟩)) :: (11, .int .i64 (kind % 32)) :: (12, a) :: (13, b) :: (14, c) :: tl) wj) :
    ∀ (k i : Nat) (wj : World) (c : Value) (tl : Env), i + k = t.outs.length → Three w0 wj a b c xs ys (madeF t.outs n (kind % 32) i) →
      W Try.prog Q 20 25 ((1, .int .i64 (n : Nat)) :: (2, sx) :: (3, .int .i64 value) :: (4, .int .u8 kind) :: (5, .pointer (some ⟨p5, 0, none⟩)) :: (10, .pointer (some ⟨p10, 0, none⟩)) :: (11, .int .i64 (kind % 32)) :: (12, a) :: (13, b) :: (14, c) :: (16, .int .i64 (i : Nat)) :: tl) wj := by
  have hlO := hO.len
  have t2 : (txC t iv ov)[2]? = some ov := rfl
  intro k
  induction k with
  | zero =>
    intro i wj c tl hi hP
    obtain rfl : i = t.outs.length := by omega
    have hno : ¬ ((t.outs.length : Nat) : Int) < (t.outs.length : Nat) := by omega
    have h5j := hP.na.ext.at h5 (fun h => h)
    (refine W_at c20_ok ?_; refine ⟨_, rfl, ?_⟩; simp (disch := first | omega | assumption | rfl | (simp only [vcS] <;> omega) | fail) only [↓vcA, vcB, ↓reduceIte, Nat.reduceEqDiff, Option.bind_some, vcM, h5j, t2, hlO, hno])
    (refine W_at c20_ok ?_; refine ⟨_, rfl, ?_⟩; simp (disch := first | omega | assumption | rfl | (simp only [vcS] <;> omega) | fail) only [↓vcA, vcB, ↓reduceIte, Nat.reduceEqDiff])
    exact done wj c _ hP
  | succ k ih =>
    intro i wj c tl hi hP
    have hil : i < t.outs.length := by omega
    have hlt : ((i : Nat) : Int) < (t.outs.length : Nat) := by omega
    have b1 : 0 ≤ ((i : Nat) : Int) ∧ ((i : Nat) : Int) < (t.outs.length : Nat) := by omega
    have hwi : IntKind.i64.wrap (((i : Nat) : Int) + 1) = ((i + 1 : Nat) : Int) := wrap_i64 (by omega) (by omega)
    have h5j := hP.na.ext.at h5 (fun h => h)
    have hml := madeF_len (n := n) (o := kind % 32) hs i
    have next : ∀ wz c tl, Three w0 wz a b c xs ys (madeF t.outs n (kind % 32) (i + 1)) → W Try.prog Q 20 19 ((1, .int .i64 (n : Nat)) :: (2, sx) :: (3, .int .i64 value) :: (4, .int .u8 kind) :: (5, .pointer (some ⟨p5, 0, none⟩)) :: (10, .pointer (some ⟨p10, 0, none⟩)) :: (11, .int .i64 (kind % 32)) :: (12, a) :: (13, b) :: (14, c) :: (16, .int .i64 (i : Nat)) :: tl) wz := by
      intro wz c tl hz
      (refine W_at c20_ok ?_; refine ⟨_, rfl, ?_⟩; simp (disch := first | omega | assumption | rfl | (simp only [vcS] <;> omega) | fail) only [↓vcA, vcB, ↓reduceIte, Nat.reduceEqDiff, Option.bind_some, hwi])
      (refine W_at c20_ok ?_; refine ⟨_, rfl, ?_⟩; simp (disch := first | omega | assumption | rfl | (simp only [vcS] <;> omega) | fail) only [vcB])
      exact ih (i + 1) wz c _ (by omega) hz
    have write : ∀ tl, ¬ (kind % 32 = 3 ∧ i ≠ n) → W Try.prog Q 20 21 ((1, .int .i64 (n : Nat)) :: (2, sx) :: (3, .int .i64 value) :: (4, .int .u8 kind) :: (5, .pointer (some ⟨p5, 0, none⟩)) :: (10, .pointer (some ⟨p10, 0, none⟩)) :: (11, .int .i64 (kind % 32)) :: (12, a) :: (13, b) :: (14, c) :: (16, .int .i64 (i : Nat)) :: tl) wj := by
      intro tl hsk
      have hmf : madeF t.outs n (kind % 32) (i + 1) = madeF t.outs n (kind % 32) i ++ encO t.outs[i] := by
        rw [madeF, if_neg hsk, List.getElem?_eq_getElem hil]; rfl
      rw [hmf] at next
      obtain ⟨bb, o, cc, cs, ev, hr0, hcs, sv, ecs, hsvW⟩ := hO.at hil
      have hy := hok _ (List.getElem_mem hil)
      have hys := hs _ (List.getElem_mem hil)
      generalize t.outs[i] = y at hy hys hsvW ecs next
      subst ecs
      have hro : ∀ wz, Ext w0 wz → cellO wz.heap[bb]? (o + i * 2 + 0) = some (.int .i64 y.val) ∧ cellO wz.heap[bb]? (o + i * 2 + 1) = some sv := fun wz hz => by
        have hr := rdO_ext' hz hr0
        exact ⟨by rw [rdO_cell hr (by omega)]; rfl, by rw [rdO_cell hr (by omega)]; rfl⟩
      have t2' : (txC t iv ov)[2]? = some (.slice (some ⟨bb, o, none⟩) t.outs.length cc) := by rw [t2, ev]
      have hr1 := (hro wj hP.na.ext).1
      rw [Nat.add_zero] at hr1
      have hv64 : IntKind.u64.wrap y.val = y.val % 18446744073709551616 := wrap_u64 _
      (refine W_at c20_ok ?_; refine ⟨_, rfl, ?_⟩; simp (disch := first | omega | assumption | rfl | (simp only [vcS] <;> omega) | fail) only [↓ptV_l, ↓vcA, vcB, ↓reduceIte, Nat.reduceEqDiff, Option.bind_some, Option.map_some, vcM, h5j, t2', b1, Int.toNat_natCast, hr1, hv64])
      refine callV_ret (low_ok wj (y.val % 18446744073709551616) 8 (by omega) (by omega)) ?_
      intro u wk hu
      have hPk := hP.grow hu.ext
      refine appN hPk.nc hu.own.rd (by rw [lowF_len]; omega) fun v' w' h1 h2 h3 => ?_
      first | (simp (disch := first | omega | assumption | rfl | (simp only [vcS] <;> omega) | fail) only [↓ptV_l, ↓vcA, vcB, ↓vcD, vcE, ↓reduceIte, Nat.reduceEqDiff, Nat.reduceAdd, Nat.reduceMul, Nat.reduceLeDiff, Int.reduceLE, Int.reduceLT, Int.reduceEq, Int.reduceToNat, Int.reduceAdd, Int.reduceSub, Int.reduceMul, Int.reduceNeg, reduceCtorEq, Option.bind_some, Option.map_some, List.length_cons, List.length_nil, vcM, List.getElem?_toArray, List.getElem?_cons_zero, List.getElem?_cons_succ]) | skip
      have hP2 := hPk.app h1 h2 h3
      have h52 := hP2.na.ext.at h5 (fun h => h)
      have hr2 := (hro w' hP2.na.ext).2
      (refine W_at c20_ok ?_; refine ⟨_, rfl, ?_⟩; simp (disch := first | omega | assumption | rfl | (simp only [vcS] <;> omega) | fail) only [↓ptV_l, ↓vcA, vcB, ↓reduceIte, Nat.reduceEqDiff, Option.bind_some, Option.map_some, vcM, h52, t2', b1, Int.toNat_natCast, hr2])
      refine callV_ret (text_ok w' sv y.script (hsvW.ext hP2.na.ext) (by omega)) ?_
      intro u2 w2 hu2
      have hP3 := hP2.grow hu2.ext
      have hsz := (sizeF_len (n := (y.script.length : Int))).2
      refine appN hP3.nc hu2.own.rd (by simp only [List.length_append, lowF_len]; omega) fun v3 w3 k1 k2 k3 => ?_
      first | (simp (disch := first | omega | assumption | rfl | (simp only [vcS] <;> omega) | fail) only [↓ptV_l, ↓vcA, vcB, ↓vcD, vcE, ↓reduceIte, Nat.reduceEqDiff, Nat.reduceAdd, Nat.reduceMul, Nat.reduceLeDiff, Int.reduceLE, Int.reduceLT, Int.reduceEq, Int.reduceToNat, Int.reduceAdd, Int.reduceSub, Int.reduceMul, Int.reduceNeg, reduceCtorEq, Option.bind_some, Option.map_some, List.length_cons, List.length_nil, vcM, List.getElem?_toArray, List.getElem?_cons_zero, List.getElem?_cons_succ]) | skip
      have hP4 := hP3.app k1 k2 k3
      refine next w3 v3 _ ?_
      unfold encO
      rw [← List.append_assoc]
      exact hP4
    have skip : ∀ tl, (kind % 32 = 3 ∧ i ≠ n) → W Try.prog Q 20 19 ((1, .int .i64 (n : Nat)) :: (2, sx) :: (3, .int .i64 value) :: (4, .int .u8 kind) :: (5, .pointer (some ⟨p5, 0, none⟩)) :: (10, .pointer (some ⟨p10, 0, none⟩)) :: (11, .int .i64 (kind % 32)) :: (12, a) :: (13, b) :: (14, c) :: (16, .int .i64 (i : Nat)) :: tl) wj := by
      intro tl hsk
      refine next wj c tl ?_
      rw [madeF, if_pos hsk, List.append_nil]
      exact hP
    (refine W_at c20_ok ?_; refine ⟨_, rfl, ?_⟩; simp (disch := first | omega | assumption | rfl | (simp only [vcS] <;> omega) | fail) only [↓vcA, vcB, ↓reduceIte, Nat.reduceEqDiff, Option.bind_some, vcM, h5j, t2, hlO, hlt])
    (refine W_at c20_ok ?_; refine ⟨_, rfl, ?_⟩; simp (disch := first | omega | assumption | rfl | (simp only [vcS] <;> omega) | fail) only [↓vcA, vcB, ↓reduceIte, Nat.reduceEqDiff])
    by_cases h3 : kind % 32 = 3
    · have h3d : decide (kind % 32 = 3) = true := decide_eq_true h3
      by_cases hin : i = n
      · subst hin
        (refine W_at c20_ok ?_; refine ⟨_, rfl, ?_⟩; simp (disch := first | omega | assumption | rfl | (simp only [vcS] <;> omega) | fail) only [↓vcA, vcB, ↓reduceIte, Nat.reduceEqDiff, Option.bind_some, h3d])
        (refine W_at c20_ok ?_; refine ⟨_, rfl, ?_⟩; simp (disch := first | omega | assumption | rfl | (simp only [vcS] <;> omega) | fail) only [↓vcA, vcB, ↓reduceIte, Nat.reduceEqDiff])
        exact write _ (by rintro ⟨_, h⟩; exact h rfl)
      · have hin' : ¬ ((i : Nat) : Int) = (n : Nat) := by omega
        (refine W_at c20_ok ?_; refine ⟨_, rfl, ?_⟩; simp (disch := first | omega | assumption | rfl | (simp only [vcS] <;> omega) | fail) only [↓vcA, vcB, ↓reduceIte, Nat.reduceEqDiff, Option.bind_some, h3d, hin'])
        (refine W_at c20_ok ?_; refine ⟨_, rfl, ?_⟩; simp (disch := first | omega | assumption | rfl | (simp only [vcS] <;> omega) | fail) only [↓vcA, vcB, ↓reduceIte, Nat.reduceEqDiff])
        exact skip _ ⟨h3, hin⟩
    · have h3d : decide (kind % 32 = 3) = false := decide_eq_false h3
      (refine W_at c20_ok ?_; refine ⟨_, rfl, ?_⟩; simp (disch := first | omega | assumption | rfl | (simp only [vcS] <;> omega) | fail) only [↓vcA, vcB, ↓reduceIte, Nat.reduceEqDiff, Option.bind_some, h3d])
      (refine W_at c20_ok ?_; refine ⟨_, rfl, ?_⟩; simp (disch := first | omega | assumption | rfl | (simp only [vcS] <;> omega) | fail) only [↓vcA, vcB, ↓reduceIte, Nat.reduceEqDiff])
      exact write _ (fun h => h3 h.1)
end Go.Proofs
namespace Go.Proofs
open Go.Vc
set_option maxRecDepth 10000

theorem New.here {w : World} : New w (w.alloc (.cells [].toArray 5)) (.slice (some ⟨w.heap.size, 0, none⟩) 0 0) [] := New.lit (bs := []) (by simp [maxLen])
theorem lowF_get : ∀ (n : Nat) (x : Nat) (i : Nat), i < n → (lowF n (x : Nat))[i]? = some ((x / 256 ^ i % 256 : Nat) : Int)
  | 0, _, _, h => by omega
  | n + 1, x, 0, _ => by simp [lowF]
  | n + 1, x, i + 1, h => by
    have e : ((x : Nat) : Int) / 256 = ((x / 256 : Nat) : Int) := by omega
    rw [lowF, List.getElem?_cons_succ, e, lowF_get n (x / 256) i (by omega), Nat.div_div_eq_div_mul, Nat.pow_succ, Nat.mul_comm (256 ^ i)]
theorem low_be8 (x i : Nat) (h : i < 8) : (lowF 8 (x : Nat))[7 - i]? = (be8 x)[i]? := by
  rw [lowF_get 8 x (7 - i) (by omega), be8_get x i h]
theorem fill_z (n j : Nat) (hj : j ≤ 63 - (n + 8) % 64) : ((n + 1 + j) % 64 = 56) = (j = 63 - (n + 8) % 64) := by
  apply propext
  omega
set_option maxHeartbeats 1600000 in
theorem fill_ok (w : World) (x : Value) (bs : List Int) (hx : Rd w x bs) (hl : bs.length ≤ 100000000) :
    Calls Try.prog 71 #[x, .int .i64 64, .int .i64 8, .bool false] w (Ret fun u w' => New w w' u (allF bs)) := by
  refine calls_of_cfg c71_ok (Nat.le_of_ble_eq_true rfl) ?_
  simp only [argE_nil, argE_cons, Nat.reduceAdd, Nat.zero_add]
  have hlen := hx.len
  (refine W_at c71_ok ?_; refine ⟨_, rfl, ?_⟩; simp (disch := first | omega | assumption | rfl | (simp only [vcS] <;> omega) | fail) only [↓vcA, vcB, ↓reduceIte, Nat.reduceEqDiff, reduceCtorEq])
  (refine W_at c71_ok ?_; refine ⟨_, rfl, ?_⟩; simp (disch := first | omega | assumption | rfl | (simp only [vcS] <;> omega) | fail) only [↓ptV_l, ↓vcA, vcB, ↓reduceIte, Nat.reduceEqDiff, reduceCtorEq, Option.bind_some, List.length_nil, vcM])
  refine appN New.here (hx.ext New.here.ext) (by simp; omega) fun v1 w1 h1 _ _ => ?_
  rw [List.nil_append] at h1
  first | (simp (disch := first | omega | assumption | rfl | (simp only [vcS] <;> omega) | fail) only [↓ptV_l, ↓vcA, vcB, ↓vcD, vcE, ↓reduceIte, Nat.reduceEqDiff, Nat.reduceAdd, Nat.reduceMul, Nat.reduceLeDiff, Int.reduceLE, Int.reduceLT, Int.reduceEq, Int.reduceToNat, Int.reduceAdd, Int.reduceSub, Int.reduceMul, Int.reduceNeg, reduceCtorEq, Option.bind_some, Option.map_some, List.length_cons, List.length_nil, vcM, List.getElem?_toArray, List.getElem?_cons_zero, List.getElem?_cons_succ]) | skip
  (refine W_at c71_ok ?_; refine ⟨_, rfl, ?_⟩; simp (disch := first | omega | assumption | rfl | (simp only [vcS] <;> omega) | fail) only [↓ptV_l, ↓vcA, vcB, ↓reduceIte, Nat.reduceEqDiff, reduceCtorEq, Option.bind_some, Option.map_some, List.length_cons, List.length_nil, vcM])
  refine appNL (news := [128]) h1 (by simp; omega) fun v2 w2 h2 _ _ => ?_
  first | (simp (disch := first | omega | assumption | rfl | (simp only [vcS] <;> omega) | fail) only [↓ptV_l, ↓vcA, vcB, ↓vcD, vcE, ↓reduceIte, Nat.reduceEqDiff, Nat.reduceAdd, Nat.reduceMul, Nat.reduceLeDiff, Int.reduceLE, Int.reduceLT, Int.reduceEq, Int.reduceToNat, Int.reduceAdd, Int.reduceSub, Int.reduceMul, Int.reduceNeg, reduceCtorEq, Option.bind_some, Option.map_some, List.length_cons, List.length_nil, vcM, List.getElem?_toArray, List.getElem?_cons_zero, List.getElem?_cons_succ]) | skip
  have hxe : ∀ {w'}, Ext w w' → Rd w' x bs := fun k => hx.ext k
  have L1 : ∀ (k j : Nat) (wj : World) (vj : Value), j + k = 63 - (bs.length + 8) % 64 → New w wj vj (bs ++ 128 :: List.replicate j 0) →
      W Try.prog (Ret fun u w' => New w w' u (allF bs)) 71 24 [(0, x), (1, .int .i64 64), (2, .int .i64 8), (3, .bool false), (9, vj)] wj := by
    intro k
    induction k with
    | zero =>
      intro j wj vj hj hN
      have hll := hN.own.rd.len
      have hL : (bs ++ 128 :: List.replicate j (0 : Int)).length = bs.length + 1 + j := by simp; omega
      rw [hL] at hll
      have hm : Int.tmod ((bs.length + 1 + j : Nat) : Int) 64 = (((bs.length + 1 + j) % 64 : Nat) : Int) := by rw [Int.tmod_eq_emod_of_nonneg (by omega)]; omega
      have hz := fill_z bs.length j (by omega)
      have he : (((bs.length + 1 + j) % 64 : Nat) : Int) = 56 := by
        have : (bs.length + 1 + j) % 64 = 56 := by rw [hz]; omega
        omega
      have u1 : IntKind.i64.wrap 56 = 56 := by decide
      have hw1 : IntKind.u64.wrap ((bs.length : Nat) : Int) = (bs.length : Nat) := by rw [wrap_u64]; omega
      have hw2 : IntKind.u64.wrap (((bs.length : Nat) : Int) * 8) = ((8 * bs.length : Nat) : Int) := by rw [wrap_u64]; omega
      (refine W_at c71_ok ?_; refine ⟨_, rfl, ?_⟩; simp (disch := first | omega | assumption | rfl | (simp only [vcS] <;> omega) | fail) only [↓vcA, vcB, ↓reduceIte, Nat.reduceEqDiff, Int.reduceEq, Int.reduceSub, reduceCtorEq, Option.bind_some, hll, hm, he, u1])
      (refine W_at c71_ok ?_; refine ⟨_, rfl, ?_⟩; simp (disch := first | omega | assumption | rfl | (simp only [vcS] <;> omega) | fail) only [↓vcA, vcB, ↓reduceIte, Nat.reduceEqDiff, reduceCtorEq])
      (refine W_at c71_ok ?_; refine ⟨_, rfl, ?_⟩; simp (disch := first | omega | assumption | rfl | (simp only [vcS] <;> omega) | fail) only [↓vcA, vcB, ↓reduceIte, Nat.reduceEqDiff, reduceCtorEq, Option.bind_some, hlen, hw1, hw2])
      (refine W_at c71_ok ?_; refine ⟨_, rfl, ?_⟩; simp (disch := first | omega | assumption | rfl | (simp only [vcS] <;> omega) | fail) only [↓vcA, vcB, ↓reduceIte, Nat.reduceEqDiff])
      (refine W_at c71_ok ?_; refine ⟨_, rfl, ?_⟩; simp (disch := first | omega | assumption | rfl | (simp only [vcS] <;> omega) | fail) only [↓vcA, vcB, ↓reduceIte, Nat.reduceEqDiff])
      have hj2 : j = 63 - (bs.length + 8) % 64 := by omega
      subst hj2
      -- the length's bytes
      have L2 : ∀ (k i : Nat) (wi : World) (li : Value) (y : Nat) (l0 : List Int), i + k = 8 → New w wi vj (bs ++ 128 :: List.replicate (63 - (bs.length + 8) % 64) 0) → New w wi li l0 → l0.length = i → l0 ++ lowF k (y : Nat) = lowF 8 ((8 * bs.length : Nat) : Int) → (y : Int) < 18446744073709551616 →
          (∀ g, blk vj g → ¬ blk li g) →
          W Try.prog (Ret fun u w' => New w w' u (allF bs)) 71 17 [(2, .int .i64 8), (3, .bool false), (9, vj), (10, .int .u64 (y : Nat)), (11, li), (12, .int .i64 (i : Nat))] wi := by
        intro k
        induction k with
        | zero =>
          intro i wi li y l0 hi hNv hNl hll0 hl0 hy hd
          have hno : ¬ ((i : Nat) : Int) < 8 := by omega
          rw [lowF, List.append_nil] at hl0
          subst hl0
          (refine W_at c71_ok ?_; refine ⟨_, rfl, ?_⟩; simp (disch := first | omega | assumption | rfl | (simp only [vcS] <;> omega) | fail) only [↓vcA, vcB, ↓reduceIte, Nat.reduceEqDiff, Option.bind_some, hno])
          (refine W_at c71_ok ?_; refine ⟨_, rfl, ?_⟩; simp (disch := first | omega | assumption | rfl | (simp only [vcS] <;> omega) | fail) only [↓vcA, vcB, ↓reduceIte, Nat.reduceEqDiff])
          (refine W_at c71_ok ?_; refine ⟨_, rfl, ?_⟩; simp (disch := first | omega | assumption | rfl | (simp only [vcS] <;> omega) | fail) only [↓vcA, vcB, ↓reduceIte, Nat.reduceEqDiff])
          have hbe : (lowF 8 ((8 * bs.length : Nat) : Int)).length = 8 := lowF_len _ _
          have L3 : ∀ (k i : Nat) (wz : World) (vz : Value), i + k = 8 → New w wz vz (bs ++ 128 :: (List.replicate (63 - (bs.length + 8) % 64) 0 ++ (be8 (8 * bs.length)).take i)) → Own1 wz li (lowF 8 ((8 * bs.length : Nat) : Int)) → (∀ g, blk vz g → ¬ blk li g) →
              W Try.prog (Ret fun u w' => New w w' u (allF bs)) 71 10 [(2, .int .i64 8), (3, .bool false), (9, vz), (11, li), (13, .int .i64 (i : Nat))] wz := by
            intro k
            induction k with
            | zero =>
              intro i wz vz hi hNz hOl hdz
              obtain rfl : i = 8 := by omega
              rw [List.take_of_length_le (by rw [be8_len]; exact Nat.le_refl _)] at hNz
              (refine W_at c71_ok ?_; refine ⟨_, rfl, ?_⟩; simp (disch := first | omega | assumption | rfl | (simp only [vcS] <;> omega) | fail) only [↓vcA, vcB, ↓reduceIte, Nat.reduceEqDiff, Int.reduceLT, Option.bind_some, vcM])
              (refine W_at c71_ok ?_; refine ⟨_, rfl, ?_⟩; simp (disch := first | omega | assumption | rfl | (simp only [vcS] <;> omega) | fail) only [↓vcA, vcB, ↓reduceIte, Nat.reduceEqDiff])
              (refine W_at c71_ok ?_; refine ⟨_, rfl, ?_⟩; simp (disch := first | omega | assumption | rfl | (simp only [vcS] <;> omega) | fail) only [↓vcA, vcB, ↓reduceIte, Nat.reduceEqDiff])
              (refine W_at c71_ok ?_; refine ⟨_, rfl, ?_⟩; simp (disch := first | omega | assumption | rfl | (simp only [vcS] <;> omega) | fail) only [↓vcA, vcB, ↓reduceIte, Option.bind_some, Option.map_some, Ret_returned])
              exact hNz
            | succ k ih3 =>
              intro i wz vz hi hNz hOl hdz
              have hlt : ((i : Nat) : Int) < 8 := by omega
              have hwi : IntKind.i64.wrap (((i : Nat) : Int) + 1) = ((i + 1 : Nat) : Int) := wrap_i64 (by omega) (by omega)
              have u2 : IntKind.i64.wrap 7 = 7 := by decide
              have hw7 : IntKind.i64.wrap (7 - ((i : Nat) : Int)) = ((7 - i : Nat) : Int) := by rw [wrap_i64 (by omega) (by omega)]; omega
              have b7 : 0 ≤ ((7 - i : Nat) : Int) ∧ ((7 - i : Nat) : Int) < 8 := by omega
              obtain ⟨bb, oo, cc, e, hc⟩ := hOl.rd.at (i := 7 - i) (by omega)
              have hgv := low_be8 (8 * bs.length) i (by omega)
              rw [List.getElem?_eq_getElem (by omega)] at hgv
              have hib : i < (be8 (8 * bs.length)).length := by rw [be8_len]; omega
              rw [List.getElem?_eq_getElem hib] at hgv
              rw [Option.some.inj hgv] at hc
              rw [hbe] at e
              subst e
              (refine W_at c71_ok ?_; refine ⟨_, rfl, ?_⟩; simp (disch := first | omega | assumption | rfl | (simp only [vcS] <;> omega) | fail) only [↓vcA, vcB, ↓reduceIte, Nat.reduceEqDiff, Option.bind_some, hlt])
              (refine W_at c71_ok ?_; refine ⟨_, rfl, ?_⟩; simp (disch := first | omega | assumption | rfl | (simp only [vcS] <;> omega) | fail) only [↓vcA, vcB, ↓reduceIte, Nat.reduceEqDiff])
              (refine W_at c71_ok ?_; refine ⟨_, rfl, ?_⟩; simp (disch := first | omega | assumption | rfl | (simp only [vcS] <;> omega) | fail) only [↓vcA, vcB, ↓reduceIte, Nat.reduceEqDiff])
              (refine W_at c71_ok ?_; refine ⟨_, rfl, ?_⟩; simp (disch := first | omega | assumption | rfl | (simp only [vcS] <;> omega) | fail) only [↓vcA, vcB, ↓reduceIte, Nat.reduceEqDiff])
              (refine W_at c71_ok ?_; refine ⟨_, rfl, ?_⟩; simp (disch := first | omega | assumption | rfl | (simp only [vcS] <;> omega) | fail) only [↓ptV_l, ↓vcA, vcB, ↓reduceIte, Nat.reduceEqDiff, Int.reduceSub, Option.bind_some, Option.map_some, List.length_cons, List.length_nil, vcM, u2, hw7, b7, Int.toNat_natCast, Nat.mul_one, hc])
              have hl8 : ((be8 (8 * bs.length)).take i).length ≤ 8 := by rw [List.length_take, be8_len]; omega
              have hOo := hOl
              refine appNL (news := [(be8 (8 * bs.length))[i]]) hNz (by simp only [List.length_append, List.length_cons, List.length_replicate, List.length_nil]; omega) fun vy wy hNy hky hby => ?_
              first | (simp (disch := first | omega | assumption | rfl | (simp only [vcS] <;> omega) | fail) only [↓ptV_l, ↓vcA, vcB, ↓vcD, vcE, ↓reduceIte, Nat.reduceEqDiff, Nat.reduceAdd, Nat.reduceMul, Nat.reduceLeDiff, Int.reduceLE, Int.reduceLT, Int.reduceEq, Int.reduceToNat, Int.reduceAdd, Int.reduceSub, Int.reduceMul, Int.reduceNeg, reduceCtorEq, Option.bind_some, Option.map_some, List.length_cons, List.length_nil, vcM, List.getElem?_toArray, List.getElem?_cons_zero, List.getElem?_cons_succ]) | skip
              (refine W_at c71_ok ?_; refine ⟨_, rfl, ?_⟩; simp (disch := first | omega | assumption | rfl | (simp only [vcS] <;> omega) | fail) only [↓vcA, vcB, ↓reduceIte, Nat.reduceEqDiff, Option.bind_some, hwi])
              (refine W_at c71_ok ?_; refine ⟨_, rfl, ?_⟩; simp (disch := first | omega | assumption | rfl | (simp only [vcS] <;> omega) | fail) only [vcB])
              refine ih3 (i + 1) wy vy (by omega) ?_ (hOo.keep hky fun g hg hb => hdz g hb hg) fun g hb hg => ?_
              · rw [List.append_assoc, List.cons_append, List.append_assoc] at hNy
                have e2 : (be8 (8 * bs.length)).take (i + 1) = (be8 (8 * bs.length)).take i ++ [(be8 (8 * bs.length))[i]] := by rw [List.take_add_one, List.getElem?_eq_getElem hib]; rfl
                rw [e2]
                exact hNy
              · rcases hby g hb with h | h
                · exact hdz g h hg
                · have := hOo.lt hg; omega
          exact L3 8 0 wi vj (by omega) (by rw [List.take_zero, List.append_nil]; exact hNv) hNl.own hd
        | succ k ih2 =>
          intro i wi li y l0 hi hNv hNl hll0 hl0 hy hd
          have hlt : ((i : Nat) : Int) < 8 := by omega
          have hwi : IntKind.i64.wrap (((i : Nat) : Int) + 1) = ((i + 1 : Nat) : Int) := wrap_i64 (by omega) (by omega)
          have hm : Int.tmod ((y : Nat) : Int) 256 = ((y : Nat) : Int) % 256 := Int.tmod_eq_emod_of_nonneg (by omega)
          have hc : IntKind.u8.wrap (((y : Nat) : Int) % 256) = ((y : Nat) : Int) % 256 := by rw [wrap_u8]; omega
          have hdv : IntKind.u64.wrap (Int.tdiv ((y : Nat) : Int) 256) = ((y / 256 : Nat) : Int) := by rw [Int.tdiv_eq_ediv_of_nonneg (by omega), wrap_u64]; omega
          (refine W_at c71_ok ?_; refine ⟨_, rfl, ?_⟩; simp (disch := first | omega | assumption | rfl | (simp only [vcS] <;> omega) | fail) only [↓vcA, vcB, ↓reduceIte, Nat.reduceEqDiff, Option.bind_some, hlt])
          (refine W_at c71_ok ?_; refine ⟨_, rfl, ?_⟩; simp (disch := first | omega | assumption | rfl | (simp only [vcS] <;> omega) | fail) only [↓vcA, vcB, ↓reduceIte, Nat.reduceEqDiff])
          (refine W_at c71_ok ?_; refine ⟨_, rfl, ?_⟩; simp (disch := first | omega | assumption | rfl | (simp only [vcS] <;> omega) | fail) only [↓ptV_l, ↓vcA, vcB, ↓reduceIte, Nat.reduceEqDiff, Int.reduceEq, Option.bind_some, Option.map_some, List.length_cons, List.length_nil, vcM, hm, hc])
          refine appNL (news := [((y : Nat) : Int) % 256]) hNl (by simp; omega) fun ly wy hNy hky hby => ?_
          first | (simp (disch := first | omega | assumption | rfl | (simp only [vcS] <;> omega) | fail) only [↓ptV_l, ↓vcA, vcB, ↓vcD, vcE, ↓reduceIte, Nat.reduceEqDiff, Nat.reduceAdd, Nat.reduceMul, Nat.reduceLeDiff, Int.reduceLE, Int.reduceLT, Int.reduceEq, Int.reduceToNat, Int.reduceAdd, Int.reduceSub, Int.reduceMul, Int.reduceNeg, reduceCtorEq, Option.bind_some, Option.map_some, List.length_cons, List.length_nil, vcM, List.getElem?_toArray, List.getElem?_cons_zero, List.getElem?_cons_succ]) | skip
          (refine W_at c71_ok ?_; refine ⟨_, rfl, ?_⟩; simp (disch := first | omega | assumption | rfl | (simp only [vcS] <;> omega) | fail) only [↓vcA, vcB, ↓reduceIte, Nat.reduceEqDiff, Int.reduceEq, Option.bind_some, hdv])
          (refine W_at c71_ok ?_; refine ⟨_, rfl, ?_⟩; simp (disch := first | omega | assumption | rfl | (simp only [vcS] <;> omega) | fail) only [↓vcA, vcB, ↓reduceIte, Nat.reduceEqDiff, Option.bind_some, hwi])
          (refine W_at c71_ok ?_; refine ⟨_, rfl, ?_⟩; simp (disch := first | omega | assumption | rfl | (simp only [vcS] <;> omega) | fail) only [vcB])
          refine ih2 (i + 1) wy ly (y / 256) _ (by omega) ⟨hNv.own.keep hky fun g hg hb => hd g hg hb, hNy.ext, hNv.new⟩ hNy (by simp; omega) ?_ (by omega) fun g hg hb => ?_
          · rw [← hl0, List.append_assoc]
            have e : ((y : Nat) : Int) / 256 = ((y / 256 : Nat) : Int) := by omega
            rw [lowF, e]; rfl
          · rcases hby g hb with h | h
            · exact hd g hg h
            · have := hNv.own.lt hg; omega
      exact L2 8 0 wj _ (8 * bs.length) [] (by omega) hN ⟨Own1.nil _, hN.ext, fun g hg => by cases hg⟩ rfl rfl (by omega) fun g _ hb => by cases hb
    | succ k ih =>
      intro j wj vj hj hN
      have hll := hN.own.rd.len
      have hL : (bs ++ 128 :: List.replicate j (0 : Int)).length = bs.length + 1 + j := by simp; omega
      rw [hL] at hll
      have hm : Int.tmod ((bs.length + 1 + j : Nat) : Int) 64 = (((bs.length + 1 + j) % 64 : Nat) : Int) := by rw [Int.tmod_eq_emod_of_nonneg (by omega)]; omega
      have hz := fill_z bs.length j (by omega)
      have he : ¬ (((bs.length + 1 + j) % 64 : Nat) : Int) = 56 := by
        have : ¬ (bs.length + 1 + j) % 64 = 56 := by rw [hz]; omega
        omega
      have u1 : IntKind.i64.wrap 56 = 56 := by decide
      (refine W_at c71_ok ?_; refine ⟨_, rfl, ?_⟩; simp (disch := first | omega | assumption | rfl | (simp only [vcS] <;> omega) | fail) only [↓vcA, vcB, ↓reduceIte, Nat.reduceEqDiff, Int.reduceEq, Int.reduceSub, reduceCtorEq, Option.bind_some, hll, hm, he, u1])
      (refine W_at c71_ok ?_; refine ⟨_, rfl, ?_⟩; simp (disch := first | omega | assumption | rfl | (simp only [vcS] <;> omega) | fail) only [↓vcA, vcB, ↓reduceIte, Nat.reduceEqDiff, reduceCtorEq])
      (refine W_at c71_ok ?_; refine ⟨_, rfl, ?_⟩; simp (disch := first | omega | assumption | rfl | (simp only [vcS] <;> omega) | fail) only [↓ptV_l, ↓vcA, vcB, ↓reduceIte, Nat.reduceEqDiff, reduceCtorEq, Option.bind_some, Option.map_some, List.length_cons, List.length_nil, vcM])
      refine appNL (news := [0]) hN (by simp; omega) fun vy wy hNy _ _ => ?_
      first | (simp (disch := first | omega | assumption | rfl | (simp only [vcS] <;> omega) | fail) only [↓ptV_l, ↓vcA, vcB, ↓vcD, vcE, ↓reduceIte, Nat.reduceEqDiff, Nat.reduceAdd, Nat.reduceMul, Nat.reduceLeDiff, Int.reduceLE, Int.reduceLT, Int.reduceEq, Int.reduceToNat, Int.reduceAdd, Int.reduceSub, Int.reduceMul, Int.reduceNeg, reduceCtorEq, Option.bind_some, Option.map_some, List.length_cons, List.length_nil, vcM, List.getElem?_toArray, List.getElem?_cons_zero, List.getElem?_cons_succ]) | skip
      (refine W_at c71_ok ?_; refine ⟨_, rfl, ?_⟩; simp (disch := first | omega | assumption | rfl | (simp only [vcS] <;> omega) | fail) only [vcB])
      refine ih (j + 1) wy vy (by omega) ?_
      rw [List.append_assoc, List.cons_append, ← List.replicate_succ'] at hNy
      exact hNy
  exact L1 (63 - (bs.length + 8) % 64) 0 w2 v2 (by omega) h2
end Go.Proofs
