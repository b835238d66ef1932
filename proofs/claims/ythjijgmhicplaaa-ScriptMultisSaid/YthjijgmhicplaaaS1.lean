/- The program's 'op': one operation of a script. -/
import Derived.Test.YthjijgmhicplaaaWP
import Derived.Test.YthjijgmhicplaaaWC
import Derived.Test.YthjijgmhicplaaaWV
set_option linter.unusedSimpArgs false
set_option linter.unusedVariables false
set_option linter.constructorNameAsVariable false
namespace Go.Proofs
open Go.Vc
set_option maxRecDepth 10000

def sizeN (c : Int) (t : List Int) : Except Int (Int × List Int) := if c < 76 then .ok (c, t) else if c = 76 then numR 1 t else if c = 77 then numR 2 t else if c = 78 then numR 4 t else .ok (0, t)
abbrev OE := Int × List Int
def opR : List Int → Except Int (OE × List Int)
  | [] => .error 4
  | c :: t => match sizeN c t with
    | .error k => .error k
    | .ok (n, t') => match rawR n t' with
      | .error k => .error k
      | .ok (d, rest) => .ok ((c, d), rest)
/-- What 'op' leaves. -/
structure OpTo (w w' : World) (r B : Nat) (bs : List Int) (c : Int) (u : Value) : Prop where
  keep : Keep (fun i => i = r) w w'
  is : ∃ data v' rem' e', u = .agg #[.int .u8 c, data] ∧ data.oneCell' = true ∧ RAt w' r B v' rem' e' ∧ (∀ k, opR bs = .error k → e' = 4) ∧ (∀ d rest, opR bs = .ok ((c, d), rest) → Own1 w' data d ∧ (∀ g, blk data g → w.heap.size ≤ g) ∧ rem' = rest ∧ e' = 0)
theorem num_ek {n : Nat} {l : List Int} {k : Int} (h : numR n l = .error k) : k = 4 := by
  unfold numR at h; split at h <;> cases h; rfl
theorem raw_ek {n : Int} {l : List Int} {k : Int} (h : rawR n l = .error k) : k = 4 := by
  unfold rawR at h; split at h <;> cases h; rfl
theorem num_byt {n : Nat} {l : List Int} {y : Int} {rest : List Int} (hb : byt l) (hn : n ≤ 4) (h : numR n l = .ok (y, rest)) : 0 ≤ y ∧ y < 4294967296 ∧ ∃ k, rest = l.drop k := by
  unfold numR at h
  split at h
  · cases h
    have hv := valF_lt (byt_take hb n)
    have hp : (256 : Int) ^ (l.take n).length ≤ 256 ^ 4 := pow256_le (by rw [List.length_take]; omega)
    have h256 : (256 : Int) ^ 4 = 4294967296 := rfl
    exact ⟨hv.1, by omega, n, rfl⟩
  · cases h
theorem raw0 (n : Int) (h : n ≤ 0) (l : List Int) : rawR n l = .ok ([], l) := by
  rw [rawR, if_pos (by omega), show n.toNat = 0 by omega]; rfl

set_option maxHeartbeats 1600000 in
theorem op_ok (w : World) (r B : Nat) (v : Value) (c : Int) (t : List Int) (h : RAt w r B v (c :: t) 0) (hB : B < w.heap.size) (hb : byt (c :: t)) (hl : (c :: t).length ≤ 1000000000) :
    Calls Try.prog 44 #[.pointer (some ⟨r, 0, none⟩)] w (Ret fun u w' => OpTo w w' r B (c :: t) c u) := by
  have hc := hb c (by simp)
  have hbt : byt t := fun z hz => hb z (by simp [hz])
  have hlt : t.length ≤ 1000000000 := by rw [List.length_cons] at hl; omega
  refine calls_of_cfg c44_ok (Nat.le_of_ble_eq_true rfl) ?_
  simp only [argE_nil, argE_cons, Nat.reduceAdd, Nat.zero_add]
  have hz1 : zc [(1, Value.int .u8 0), (1, .slice none 0 0)] = #[.int .u8 0, .slice none 0 0] := rfl
  (refine W_at c44_ok ?_; refine ⟨_, rfl, ?_⟩; simp (disch := first | omega | assumption | rfl | (simp only [vcS] <;> omega) | fail) only [↓ptV_l, ↓vcA, vcB, ↓vcD, vcE, ↓reduceIte, Nat.reduceEqDiff, Nat.reduceAdd, Nat.reduceMul, Nat.reduceLeDiff, Int.reduceLE, Int.reduceLT, Int.reduceEq, Int.reduceToNat, Int.reduceAdd, Int.reduceSub, Int.reduceMul, Int.reduceNeg, reduceCtorEq, Option.bind_some, Option.map_some, List.length_cons, List.length_nil, vcM, List.getElem?_toArray, List.getElem?_cons_zero, List.getElem?_cons_succ, hz1])
  have h2 : (w.alloc (Obj.cells #[.int .u8 0, .slice none 0 0] 37)).heap[w.heap.size]? = some (.cells #[.int .u8 0, .slice none 0 0] 37 (0, 0)) := heap_new _ _ _ rfl
  have hE : Ext w (w.alloc (Obj.cells #[.int .u8 0, .slice none 0 0] 37)) := by (repeat' first | exact Keep.refl _ _ | assumption | refine Keep.drew ?_ | refine Keep.alloc ?_ _ | refine Keep.putN ?_ _ ?_ | refine Keep.setCell ?_ _ ?_ | refine Keep.setO ?_ _ ?_ | exact fun _ => Or.inl rfl | exact fun _ => Or.inr rfl | exact fun _ => rfl | (intro hh; exfalso; ((try simp only [vcS] at hh) <;> omega)))
  have hrl := h.lt
  generalize hp2 : w.heap.size = p2 at h2 hrl ⊢
  generalize World.alloc _ _ = w1 at h2 hE ⊢
  (refine W_at c44_ok ?_; refine ⟨_, rfl, ?_⟩; simp (disch := first | omega | assumption | rfl | (simp only [vcS] <;> omega) | fail) only [↓ptV_l, ↓vcA, vcB, ↓vcD, vcE, ↓reduceIte, Nat.reduceEqDiff, Nat.reduceAdd, Nat.reduceMul, Nat.reduceLeDiff, Int.reduceLE, Int.reduceLT, Int.reduceEq, Int.reduceToNat, Int.reduceAdd, Int.reduceSub, Int.reduceMul, Int.reduceNeg, reduceCtorEq, Option.bind_some, Option.map_some, List.length_cons, List.length_nil, vcM, List.getElem?_toArray, List.getElem?_cons_zero, List.getElem?_cons_succ])
  refine callV_ret (ru8_ok w1 r B v (c :: t) 0 (h.ext hE) (Nat.lt_of_lt_of_le hB hE.size) hb) ?_
  intro u w2 hT
  obtain ⟨rfl, v2, hR2⟩ := hT.ok rfl c t (by rw [numR, if_pos (by simp)]; simp [valF])
  have hk2 := hT.keep
  have h2b := hk2.at h2 (by omega)
  have hK2 : Keep (fun i => i = r) w w2 := (hE.mono fun _ h => h.elim).trans hk2 fun _ _ h => h
  have hz2 : zc [(1, Value.slice none 0 0)] = #[.slice none 0 0] := rfl
  have hap : (#[Value.int .u8 c] ++ #[Value.slice none 0 0] : Array Value) = #[.int .u8 c, .slice none 0 0] := rfl
  clear hT
  simp (disch := first | omega | assumption | rfl | (simp only [vcS] <;> omega) | fail) only [↓ptV_l, ↓vcA, vcB, ↓vcD, vcE, ↓reduceIte, Nat.reduceEqDiff, Nat.reduceAdd, Nat.reduceMul, Nat.reduceLeDiff, Int.reduceLE, Int.reduceLT, Int.reduceEq, Int.reduceToNat, Int.reduceAdd, Int.reduceSub, Int.reduceMul, Int.reduceNeg, reduceCtorEq, Option.bind_some, Option.map_some, List.length_cons, List.length_nil, vcM, List.getElem?_toArray, List.getElem?_cons_zero, List.getElem?_cons_succ, hz1, hz2, hap]
  have h3 : ((w2.alloc (Obj.cells #[.int .u8 0, .slice none 0 0] 37)).putN w2.heap.size 0 #[.int .u8 c, .slice none 0 0]).heap[w2.heap.size]? = some (.cells #[.int .u8 c, .slice none 0 0] 37 (0, 0)) := heap_local w2 rfl
  have hE3 : Ext w2 ((w2.alloc (Obj.cells #[.int .u8 0, .slice none 0 0] 37)).putN w2.heap.size 0 #[.int .u8 c, .slice none 0 0]) := by (repeat' first | exact Keep.refl _ _ | assumption | refine Keep.drew ?_ | refine Keep.alloc ?_ _ | refine Keep.putN ?_ _ ?_ | refine Keep.setCell ?_ _ ?_ | refine Keep.setO ?_ _ ?_ | exact fun _ => Or.inl rfl | exact fun _ => Or.inr rfl | exact fun _ => rfl | (intro hh; exfalso; ((try simp only [vcS] at hh) <;> omega)))
  have h2c := hE3.at h2b fun h => h
  have hR3 := hR2.ext hE3
  have hK3 := hK2.ext hE3
  have hp2l := lt_of_heap h2b
  have hps : p2 ≠ w2.heap.size := by omega
  have hp3r : w2.heap.size ≠ r := by omega
  have hp3B : w2.heap.size ≠ B := by have := hK2.size; omega
  generalize World.putN _ _ _ _ = w3 at h3 hE3 h2c hR3 hK3 ⊢
  generalize w2.heap.size = p3 at h3 hps hp3r hp3B hp2l ⊢
  clear hR2 hK2 h2b hk2 hE3
  have hend : ∀ (en : Env) (wz : World) (data v' : Value) (rem' : List Int) (e' : Int), Vc.look en 2 = some (.pointer (some ⟨p2, 0, none⟩)) → Vc.look en 3 = some (.pointer (some ⟨p3, 0, none⟩)) → data.oneCell' = true → wz.heap[p3]? = some (.cells #[.int .u8 c, data] 37 (0, 0)) → wz.heap[p2]? = some (.cells #[.int .u8 0, .slice none 0 0] 37 (0, 0)) →
      Keep (fun i => i = r) w wz → RAt wz r B v' rem' e' → (∀ g, blk data g → p2 < g) → (∀ k, opR (c :: t) = .error k → e' = 4) → (∀ d rest, opR (c :: t) = .ok ((c, d), rest) → Own1 wz data d ∧ rem' = rest ∧ e' = 0) →
      W Try.prog (Ret fun u w' => OpTo w w' r B (c :: t) c u) 44 2 en wz := by
    intro en wz data v' rem' e' l2 l3 hd1 q3 q2 hK hR hbl he ho
    have hr2 : ∀ a b : Value, rdO (some (Obj.cells #[a, b] 37 (0, 0))) 0 2 = some #[a, b] := fun _ _ => rfl
    (refine W_at c44_ok ?_; refine ⟨_, rfl, ?_⟩; simp (disch := first | omega | assumption | rfl | (simp only [vcS] <;> omega) | fail) only [↓ptV_l, ↓vcA, vcB, ↓vcD, vcE, ↓reduceIte, Nat.reduceEqDiff, Nat.reduceAdd, Nat.reduceMul, Nat.reduceLeDiff, Int.reduceLE, Int.reduceLT, Int.reduceEq, Int.reduceToNat, Int.reduceAdd, Int.reduceSub, Int.reduceMul, Int.reduceNeg, reduceCtorEq, Option.bind_some, Option.map_some, List.length_cons, List.length_nil, vcM, List.getElem?_toArray, List.getElem?_cons_zero, List.getElem?_cons_succ, l2, l3, q3, q2, hr2, hd1])
    have hkp : Keep (fun i => i = p2) wz (wz.putN p2 0 #[.int .u8 c, data]) := (Keep.refl _ wz).putN _ fun _ => rfl
    have hput : rdO (wz.putN p2 0 #[.int .u8 c, data]).heap[p2]? 0 2 = some #[.int .u8 c, data] := rdO_put (w := wz) q2 rfl rfl
    (refine W_at c44_ok ?_; refine ⟨_, rfl, ?_⟩; simp (disch := first | omega | assumption | rfl | (simp only [vcS] <;> omega) | fail) only [↓ptV_l, ↓vcA, vcB, ↓vcD, vcE, ↓reduceIte, Nat.reduceEqDiff, Nat.reduceAdd, Nat.reduceMul, Nat.reduceLeDiff, Int.reduceLE, Int.reduceLT, Int.reduceEq, Int.reduceToNat, Int.reduceAdd, Int.reduceSub, Int.reduceMul, Int.reduceNeg, reduceCtorEq, Option.bind_some, Option.map_some, List.length_cons, List.length_nil, vcM, List.getElem?_toArray, List.getElem?_cons_zero, List.getElem?_cons_succ, hput, Ret_returned])
    refine ⟨hK.putN _ (by omega), data, v', rem', e', rfl, hd1, hR.keep hkp (by omega) (by omega), he, fun d rest h => ?_⟩
    obtain ⟨o1, o2, o3⟩ := ho d rest h
    exact ⟨o1.keep hkp fun g hg (e : g = p2) => by have := hbl g hg; omega, fun g hg => by have := hbl g hg; omega, o2, o3⟩
  -- the size is known
  have hfin : ∀ (s : Env) (n : Int) (t' : List Int) (wz : World) (v' : Value), sizeN c t = .ok (n, t') → 0 ≤ n → n < 4294967296 → t'.length ≤ 1000000000 → wz.heap[p3]? = some (.cells #[.int .u8 c, .slice none 0 0] 37 (0, 0)) → wz.heap[p2]? = some (.cells #[.int .u8 0, .slice none 0 0] 37 (0, 0)) →
      Keep (fun i => i = r) w wz → RAt wz r B v' t' 0 → W Try.prog (Ret fun u w' => OpTo w w' r B (c :: t) c u) 44 5 ((0, .pointer (some ⟨r, 0, none⟩)) :: (2, .pointer (some ⟨p2, 0, none⟩)) :: (3, .pointer (some ⟨p3, 0, none⟩)) ::  (4, .int .i64 n) :: s) wz := by
    intro s n t' wz v' hs hn0 hn1 htl q3 q2 hK hR
    by_cases hgt : 0 < n
    · (refine W_at c44_ok ?_; refine ⟨_, rfl, ?_⟩; simp (disch := first | omega | assumption | rfl | (simp only [vcS] <;> omega) | fail) only [↓ptV_l, ↓vcA, vcB, ↓vcD, vcE, ↓reduceIte, Nat.reduceEqDiff, Nat.reduceAdd, Nat.reduceMul, Nat.reduceLeDiff, Int.reduceLE, Int.reduceLT, Int.reduceEq, Int.reduceToNat, Int.reduceAdd, Int.reduceSub, Int.reduceMul, Int.reduceNeg, reduceCtorEq, Option.bind_some, Option.map_some, List.length_cons, List.length_nil, vcM, List.getElem?_toArray, List.getElem?_cons_zero, List.getElem?_cons_succ, hgt])
      (refine W_at c44_ok ?_; refine ⟨_, rfl, ?_⟩; simp (disch := first | omega | assumption | rfl | (simp only [vcS] <;> omega) | fail) only [↓ptV_l, ↓vcA, vcB, ↓vcD, vcE, ↓reduceIte, Nat.reduceEqDiff, Nat.reduceAdd, Nat.reduceMul, Nat.reduceLeDiff, Int.reduceLE, Int.reduceLT, Int.reduceEq, Int.reduceToNat, Int.reduceAdd, Int.reduceSub, Int.reduceMul, Int.reduceNeg, reduceCtorEq, Option.bind_some, Option.map_some, List.length_cons, List.length_nil, vcM, List.getElem?_toArray, List.getElem?_cons_zero, List.getElem?_cons_succ])
      (refine W_at c44_ok ?_; refine ⟨_, rfl, ?_⟩; simp (disch := first | omega | assumption | rfl | (simp only [vcS] <;> omega) | fail) only [↓ptV_l, ↓vcA, vcB, ↓vcD, vcE, ↓reduceIte, Nat.reduceEqDiff, Nat.reduceAdd, Nat.reduceMul, Nat.reduceLeDiff, Int.reduceLE, Int.reduceLT, Int.reduceEq, Int.reduceToNat, Int.reduceAdd, Int.reduceSub, Int.reduceMul, Int.reduceNeg, reduceCtorEq, Option.bind_some, Option.map_some, List.length_cons, List.length_nil, vcM, List.getElem?_toArray, List.getElem?_cons_zero, List.getElem?_cons_succ])
      have hp2z := lt_of_heap q2
      refine callV_ret (rRaw_ok wz r B v' t' 0 n hR (Nat.lt_of_lt_of_le hB hK.size) htl) ?_
      intro u wy hT
      have q3y := hT.keep.at q3 hp3r
      have q2y := hT.keep.at q2 (by omega)
      have hKy : Keep (fun i => i = r) w wy := hK.trans hT.keep fun _ _ h => h
      cases hraw : rawR n t' with
      | error k =>
        obtain ⟨rfl, hRy⟩ := hT.er rfl k hraw
        have hk4 := raw_ek hraw
        subst hk4
        simp (disch := first | omega | assumption | rfl | (simp only [vcS] <;> omega) | fail) only [↓ptV_l, ↓vcA, vcB, ↓vcD, vcE, ↓reduceIte, Nat.reduceEqDiff, Nat.reduceAdd, Nat.reduceMul, Nat.reduceLeDiff, Int.reduceLE, Int.reduceLT, Int.reduceEq, Int.reduceToNat, Int.reduceAdd, Int.reduceSub, Int.reduceMul, Int.reduceNeg, reduceCtorEq, Option.bind_some, Option.map_some, List.length_cons, List.length_nil, vcM, List.getElem?_toArray, List.getElem?_cons_zero, List.getElem?_cons_succ, q3y]
        refine ⟨wr1_of q3y (by simp), ?_⟩
        have hks : Keep (fun i => i = p3) wy (wy.setCell ⟨p3, 1, none⟩ (.slice none 0 0)) := (Keep.refl _ wy).setCell _ fun _ => rfl
        refine hend _ _ _ v' t' 4 rfl rfl rfl (by rw [heap_setCell_eq q3y]; rfl) (hks.at q2y hps) (hKy.setCell _ (by omega)) (hRy.keep hks (by omega) (by omega)) (fun g hg => by cases hg) (fun k hk => rfl) fun d rest h => ?_
        rw [opR, hs] at h
        simp only at h
        rw [hraw] at h; cases h
      | ok p =>
        obtain ⟨d, rest⟩ := p
        obtain ⟨⟨hO, hnb⟩, v'', hRy⟩ := hT.ok rfl d rest hraw
        have hu1 := hO.rd.one
        simp (disch := first | omega | assumption | rfl | (simp only [vcS] <;> omega) | fail) only [↓ptV_l, ↓vcA, vcB, ↓vcD, vcE, ↓reduceIte, Nat.reduceEqDiff, Nat.reduceAdd, Nat.reduceMul, Nat.reduceLeDiff, Int.reduceLE, Int.reduceLT, Int.reduceEq, Int.reduceToNat, Int.reduceAdd, Int.reduceSub, Int.reduceMul, Int.reduceNeg, reduceCtorEq, Option.bind_some, Option.map_some, List.length_cons, List.length_nil, vcM, List.getElem?_toArray, List.getElem?_cons_zero, List.getElem?_cons_succ, q3y, hu1]
        refine ⟨wr1_of q3y (by simp), ?_⟩
        have hks : Keep (fun i => i = p3) wy (wy.setCell ⟨p3, 1, none⟩ u) := (Keep.refl _ wy).setCell _ fun _ => rfl
        have hp3z := lt_of_heap q3
        refine hend _ _ _ v'' rest 0 rfl rfl hu1 (by rw [heap_setCell_eq q3y]; rfl) (hks.at q2y hps) (hKy.setCell _ (by omega)) (hRy.keep hks (by omega) (by omega)) (fun g hg => by have := hnb g hg; omega) (fun k hk => ?_) fun d' rest' h => ?_
        · rw [opR, hs] at hk
          simp only at hk
          rw [hraw] at hk; cases hk
        · rw [opR, hs] at h
          simp only at h
          rw [hraw] at h; cases h
          exact ⟨hO.keep hks fun g hg (e : g = p3) => by have := hnb g hg; omega, rfl, rfl⟩
    · (refine W_at c44_ok ?_; refine ⟨_, rfl, ?_⟩; simp (disch := first | omega | assumption | rfl | (simp only [vcS] <;> omega) | fail) only [↓ptV_l, ↓vcA, vcB, ↓vcD, vcE, ↓reduceIte, Nat.reduceEqDiff, Nat.reduceAdd, Nat.reduceMul, Nat.reduceLeDiff, Int.reduceLE, Int.reduceLT, Int.reduceEq, Int.reduceToNat, Int.reduceAdd, Int.reduceSub, Int.reduceMul, Int.reduceNeg, reduceCtorEq, Option.bind_some, Option.map_some, List.length_cons, List.length_nil, vcM, List.getElem?_toArray, List.getElem?_cons_zero, List.getElem?_cons_succ, hgt])
      (refine W_at c44_ok ?_; refine ⟨_, rfl, ?_⟩; simp (disch := first | omega | assumption | rfl | (simp only [vcS] <;> omega) | fail) only [↓ptV_l, ↓vcA, vcB, ↓vcD, vcE, ↓reduceIte, Nat.reduceEqDiff, Nat.reduceAdd, Nat.reduceMul, Nat.reduceLeDiff, Int.reduceLE, Int.reduceLT, Int.reduceEq, Int.reduceToNat, Int.reduceAdd, Int.reduceSub, Int.reduceMul, Int.reduceNeg, reduceCtorEq, Option.bind_some, Option.map_some, List.length_cons, List.length_nil, vcM, List.getElem?_toArray, List.getElem?_cons_zero, List.getElem?_cons_succ])
      refine hend _ wz _ v' t' 0 rfl rfl rfl q3 q2 hK hR (fun g hg => by cases hg) (fun k hk => ?_) fun d rest h => ?_
      · rw [opR, hs] at hk
        simp only at hk
        rw [raw0 n (by omega)] at hk; cases hk
      · rw [opR, hs] at h
        simp only at h
        rw [raw0 n (by omega)] at h; cases h
        exact ⟨Own1.nil _, rfl, rfl⟩
  -- the size could not be read
  have herr : ∀ (s : Env) (wz : World) (v' : Value) (rem' : List Int), sizeN c t = .error 4 → wz.heap[p3]? = some (.cells #[.int .u8 c, .slice none 0 0] 37 (0, 0)) → wz.heap[p2]? = some (.cells #[.int .u8 0, .slice none 0 0] 37 (0, 0)) →
      Keep (fun i => i = r) w wz → RAt wz r B v' rem' 4 → W Try.prog (Ret fun u w' => OpTo w w' r B (c :: t) c u) 44 5 ((0, .pointer (some ⟨r, 0, none⟩)) :: (2, .pointer (some ⟨p2, 0, none⟩)) :: (3, .pointer (some ⟨p3, 0, none⟩)) ::  (4, .int .i64 0) :: s) wz := by
    intro s wz v' rem' hs q3 q2 hK hR
    (refine W_at c44_ok ?_; refine ⟨_, rfl, ?_⟩; simp (disch := first | omega | assumption | rfl | (simp only [vcS] <;> omega) | fail) only [↓ptV_l, ↓vcA, vcB, ↓vcD, vcE, ↓reduceIte, Nat.reduceEqDiff, Nat.reduceAdd, Nat.reduceMul, Nat.reduceLeDiff, Int.reduceLE, Int.reduceLT, Int.reduceEq, Int.reduceToNat, Int.reduceAdd, Int.reduceSub, Int.reduceMul, Int.reduceNeg, reduceCtorEq, Option.bind_some, Option.map_some, List.length_cons, List.length_nil, vcM, List.getElem?_toArray, List.getElem?_cons_zero, List.getElem?_cons_succ])
    (refine W_at c44_ok ?_; refine ⟨_, rfl, ?_⟩; simp (disch := first | omega | assumption | rfl | (simp only [vcS] <;> omega) | fail) only [↓ptV_l, ↓vcA, vcB, ↓vcD, vcE, ↓reduceIte, Nat.reduceEqDiff, Nat.reduceAdd, Nat.reduceMul, Nat.reduceLeDiff, Int.reduceLE, Int.reduceLT, Int.reduceEq, Int.reduceToNat, Int.reduceAdd, Int.reduceSub, Int.reduceMul, Int.reduceNeg, reduceCtorEq, Option.bind_some, Option.map_some, List.length_cons, List.length_nil, vcM, List.getElem?_toArray, List.getElem?_cons_zero, List.getElem?_cons_succ])
    refine hend _ wz _ v' rem' 4 rfl rfl rfl q3 q2 hK hR (fun g hg => by cases hg) (fun k hk => rfl) fun d rest h => ?_
    rw [opR, hs] at h; cases h
  (refine W_at c44_ok ?_; refine ⟨_, rfl, ?_⟩; simp (disch := first | omega | assumption | rfl | (simp only [vcS] <;> omega) | fail) only [↓ptV_l, ↓vcA, vcB, ↓vcD, vcE, ↓reduceIte, Nat.reduceEqDiff, Nat.reduceAdd, Nat.reduceMul, Nat.reduceLeDiff, Int.reduceLE, Int.reduceLT, Int.reduceEq, Int.reduceToNat, Int.reduceAdd, Int.reduceSub, Int.reduceMul, Int.reduceNeg, reduceCtorEq, Option.bind_some, Option.map_some, List.length_cons, List.length_nil, vcM, List.getElem?_toArray, List.getElem?_cons_zero, List.getElem?_cons_succ])
  have hr1 : ∀ a b : Value, rdO (some (Obj.cells #[a, b] 37 (0, 0))) 0 2 = some #[a, b] := fun _ _ => rfl
  (refine W_at c44_ok ?_; refine ⟨_, rfl, ?_⟩; simp (disch := first | omega | assumption | rfl | (simp only [vcS] <;> omega) | fail) only [↓ptV_l, ↓vcA, vcB, ↓vcD, vcE, ↓reduceIte, Nat.reduceEqDiff, Nat.reduceAdd, Nat.reduceMul, Nat.reduceLeDiff, Int.reduceLE, Int.reduceLT, Int.reduceEq, Int.reduceToNat, Int.reduceAdd, Int.reduceSub, Int.reduceMul, Int.reduceNeg, reduceCtorEq, Option.bind_some, Option.map_some, List.length_cons, List.length_nil, vcM, List.getElem?_toArray, List.getElem?_cons_zero, List.getElem?_cons_succ, h3])
  by_cases k0 : c < 76
  · (refine W_at c44_ok ?_; refine ⟨_, rfl, ?_⟩; simp (disch := first | omega | assumption | rfl | (simp only [vcS] <;> omega) | fail) only [↓ptV_l, ↓vcA, vcB, ↓vcD, vcE, ↓reduceIte, Nat.reduceEqDiff, Nat.reduceAdd, Nat.reduceMul, Nat.reduceLeDiff, Int.reduceLE, Int.reduceLT, Int.reduceEq, Int.reduceToNat, Int.reduceAdd, Int.reduceSub, Int.reduceMul, Int.reduceNeg, reduceCtorEq, Option.bind_some, Option.map_some, List.length_cons, List.length_nil, vcM, List.getElem?_toArray, List.getElem?_cons_zero, List.getElem?_cons_succ, k0])
    have hcv : IntKind.i64.wrap c = c := wrap_i64 (by omega) (by omega)
    (refine W_at c44_ok ?_; refine ⟨_, rfl, ?_⟩; simp (disch := first | omega | assumption | rfl | (simp only [vcS] <;> omega) | fail) only [↓ptV_l, ↓vcA, vcB, ↓vcD, vcE, ↓reduceIte, Nat.reduceEqDiff, Nat.reduceAdd, Nat.reduceMul, Nat.reduceLeDiff, Int.reduceLE, Int.reduceLT, Int.reduceEq, Int.reduceToNat, Int.reduceAdd, Int.reduceSub, Int.reduceMul, Int.reduceNeg, reduceCtorEq, Option.bind_some, Option.map_some, List.length_cons, List.length_nil, vcM, List.getElem?_toArray, List.getElem?_cons_zero, List.getElem?_cons_succ, h3, hcv])
    exact hfin _ c t w3 v2 (by rw [sizeN, if_pos k0]) hc.1 (by omega) hlt h3 h2c hK3 hR3
  by_cases k76 : c = 76
  · subst k76
    (refine W_at c44_ok ?_; refine ⟨_, rfl, ?_⟩; simp (disch := first | omega | assumption | rfl | (simp only [vcS] <;> omega) | fail) only [↓ptV_l, ↓vcA, vcB, ↓vcD, vcE, ↓reduceIte, Nat.reduceEqDiff, Nat.reduceAdd, Nat.reduceMul, Nat.reduceLeDiff, Int.reduceLE, Int.reduceLT, Int.reduceEq, Int.reduceToNat, Int.reduceAdd, Int.reduceSub, Int.reduceMul, Int.reduceNeg, reduceCtorEq, Option.bind_some, Option.map_some, List.length_cons, List.length_nil, vcM, List.getElem?_toArray, List.getElem?_cons_zero, List.getElem?_cons_succ])
    (refine W_at c44_ok ?_; refine ⟨_, rfl, ?_⟩; simp (disch := first | omega | assumption | rfl | (simp only [vcS] <;> omega) | fail) only [↓ptV_l, ↓vcA, vcB, ↓vcD, vcE, ↓reduceIte, Nat.reduceEqDiff, Nat.reduceAdd, Nat.reduceMul, Nat.reduceLeDiff, Int.reduceLE, Int.reduceLT, Int.reduceEq, Int.reduceToNat, Int.reduceAdd, Int.reduceSub, Int.reduceMul, Int.reduceNeg, reduceCtorEq, Option.bind_some, Option.map_some, List.length_cons, List.length_nil, vcM, List.getElem?_toArray, List.getElem?_cons_zero, List.getElem?_cons_succ, h3])
    (refine W_at c44_ok ?_; refine ⟨_, rfl, ?_⟩; simp (disch := first | omega | assumption | rfl | (simp only [vcS] <;> omega) | fail) only [↓ptV_l, ↓vcA, vcB, ↓vcD, vcE, ↓reduceIte, Nat.reduceEqDiff, Nat.reduceAdd, Nat.reduceMul, Nat.reduceLeDiff, Int.reduceLE, Int.reduceLT, Int.reduceEq, Int.reduceToNat, Int.reduceAdd, Int.reduceSub, Int.reduceMul, Int.reduceNeg, reduceCtorEq, Option.bind_some, Option.map_some, List.length_cons, List.length_nil, vcM, List.getElem?_toArray, List.getElem?_cons_zero, List.getElem?_cons_succ])
    (refine W_at c44_ok ?_; refine ⟨_, rfl, ?_⟩; simp (disch := first | omega | assumption | rfl | (simp only [vcS] <;> omega) | fail) only [↓ptV_l, ↓vcA, vcB, ↓vcD, vcE, ↓reduceIte, Nat.reduceEqDiff, Nat.reduceAdd, Nat.reduceMul, Nat.reduceLeDiff, Int.reduceLE, Int.reduceLT, Int.reduceEq, Int.reduceToNat, Int.reduceAdd, Int.reduceSub, Int.reduceMul, Int.reduceNeg, reduceCtorEq, Option.bind_some, Option.map_some, List.length_cons, List.length_nil, vcM, List.getElem?_toArray, List.getElem?_cons_zero, List.getElem?_cons_succ])
    have hsn : sizeN 76 t = numR 1 t := by rw [sizeN, if_neg (by omega), if_pos rfl]
    refine callV_ret (ru8_ok w3 r B v2 t 0 hR3 (Nat.lt_of_lt_of_le hB hK3.size) hbt) ?_
    intro u wz hT
    have q3 := hT.keep.at h3 hp3r
    have q2 := hT.keep.at h2c (by omega)
    have hKz : Keep (fun i => i = r) w wz := hK3.trans hT.keep fun _ _ h => h
    cases hnum : numR 1 t with
    | error k =>
      obtain ⟨rfl, hRz⟩ := hT.er rfl k hnum
      have hk4 := num_ek hnum
      subst hk4
      have hc0 : IntKind.i64.wrap 0 = 0 := rfl
      simp (disch := first | omega | assumption | rfl | (simp only [vcS] <;> omega) | fail) only [↓ptV_l, ↓vcA, vcB, ↓vcD, vcE, ↓reduceIte, Nat.reduceEqDiff, Nat.reduceAdd, Nat.reduceMul, Nat.reduceLeDiff, Int.reduceLE, Int.reduceLT, Int.reduceEq, Int.reduceToNat, Int.reduceAdd, Int.reduceSub, Int.reduceMul, Int.reduceNeg, reduceCtorEq, Option.bind_some, Option.map_some, List.length_cons, List.length_nil, vcM, List.getElem?_toArray, List.getElem?_cons_zero, List.getElem?_cons_succ, hc0]
      exact herr _ wz v2 t (by rw [hsn, hnum]) q3 q2 hKz hRz
    | ok p =>
      obtain ⟨n, t'⟩ := p
      obtain ⟨rfl, v', hRz⟩ := hT.ok rfl n t' hnum
      obtain ⟨n0, n1, kk, hkk⟩ := num_byt hbt (by omega) hnum
      have hcv : IntKind.i64.wrap n = n := wrap_i64 (by omega) (by omega)
      have htl : t'.length ≤ 1000000000 := by rw [hkk, List.length_drop]; omega
      simp (disch := first | omega | assumption | rfl | (simp only [vcS] <;> omega) | fail) only [↓ptV_l, ↓vcA, vcB, ↓vcD, vcE, ↓reduceIte, Nat.reduceEqDiff, Nat.reduceAdd, Nat.reduceMul, Nat.reduceLeDiff, Int.reduceLE, Int.reduceLT, Int.reduceEq, Int.reduceToNat, Int.reduceAdd, Int.reduceSub, Int.reduceMul, Int.reduceNeg, reduceCtorEq, Option.bind_some, Option.map_some, List.length_cons, List.length_nil, vcM, List.getElem?_toArray, List.getElem?_cons_zero, List.getElem?_cons_succ, hcv]
      exact hfin _ n t' wz v' (by rw [hsn, hnum]) n0 n1 htl q3 q2 hKz hRz
  by_cases k77 : c = 77
  · subst k77
    (refine W_at c44_ok ?_; refine ⟨_, rfl, ?_⟩; simp (disch := first | omega | assumption | rfl | (simp only [vcS] <;> omega) | fail) only [↓ptV_l, ↓vcA, vcB, ↓vcD, vcE, ↓reduceIte, Nat.reduceEqDiff, Nat.reduceAdd, Nat.reduceMul, Nat.reduceLeDiff, Int.reduceLE, Int.reduceLT, Int.reduceEq, Int.reduceToNat, Int.reduceAdd, Int.reduceSub, Int.reduceMul, Int.reduceNeg, reduceCtorEq, Option.bind_some, Option.map_some, List.length_cons, List.length_nil, vcM, List.getElem?_toArray, List.getElem?_cons_zero, List.getElem?_cons_succ])
    (refine W_at c44_ok ?_; refine ⟨_, rfl, ?_⟩; simp (disch := first | omega | assumption | rfl | (simp only [vcS] <;> omega) | fail) only [↓ptV_l, ↓vcA, vcB, ↓vcD, vcE, ↓reduceIte, Nat.reduceEqDiff, Nat.reduceAdd, Nat.reduceMul, Nat.reduceLeDiff, Int.reduceLE, Int.reduceLT, Int.reduceEq, Int.reduceToNat, Int.reduceAdd, Int.reduceSub, Int.reduceMul, Int.reduceNeg, reduceCtorEq, Option.bind_some, Option.map_some, List.length_cons, List.length_nil, vcM, List.getElem?_toArray, List.getElem?_cons_zero, List.getElem?_cons_succ, h3])
    (refine W_at c44_ok ?_; refine ⟨_, rfl, ?_⟩; simp (disch := first | omega | assumption | rfl | (simp only [vcS] <;> omega) | fail) only [↓ptV_l, ↓vcA, vcB, ↓vcD, vcE, ↓reduceIte, Nat.reduceEqDiff, Nat.reduceAdd, Nat.reduceMul, Nat.reduceLeDiff, Int.reduceLE, Int.reduceLT, Int.reduceEq, Int.reduceToNat, Int.reduceAdd, Int.reduceSub, Int.reduceMul, Int.reduceNeg, reduceCtorEq, Option.bind_some, Option.map_some, List.length_cons, List.length_nil, vcM, List.getElem?_toArray, List.getElem?_cons_zero, List.getElem?_cons_succ])
    (refine W_at c44_ok ?_; refine ⟨_, rfl, ?_⟩; simp (disch := first | omega | assumption | rfl | (simp only [vcS] <;> omega) | fail) only [↓ptV_l, ↓vcA, vcB, ↓vcD, vcE, ↓reduceIte, Nat.reduceEqDiff, Nat.reduceAdd, Nat.reduceMul, Nat.reduceLeDiff, Int.reduceLE, Int.reduceLT, Int.reduceEq, Int.reduceToNat, Int.reduceAdd, Int.reduceSub, Int.reduceMul, Int.reduceNeg, reduceCtorEq, Option.bind_some, Option.map_some, List.length_cons, List.length_nil, vcM, List.getElem?_toArray, List.getElem?_cons_zero, List.getElem?_cons_succ, h3])
    (refine W_at c44_ok ?_; refine ⟨_, rfl, ?_⟩; simp (disch := first | omega | assumption | rfl | (simp only [vcS] <;> omega) | fail) only [↓ptV_l, ↓vcA, vcB, ↓vcD, vcE, ↓reduceIte, Nat.reduceEqDiff, Nat.reduceAdd, Nat.reduceMul, Nat.reduceLeDiff, Int.reduceLE, Int.reduceLT, Int.reduceEq, Int.reduceToNat, Int.reduceAdd, Int.reduceSub, Int.reduceMul, Int.reduceNeg, reduceCtorEq, Option.bind_some, Option.map_some, List.length_cons, List.length_nil, vcM, List.getElem?_toArray, List.getElem?_cons_zero, List.getElem?_cons_succ])
    (refine W_at c44_ok ?_; refine ⟨_, rfl, ?_⟩; simp (disch := first | omega | assumption | rfl | (simp only [vcS] <;> omega) | fail) only [↓ptV_l, ↓vcA, vcB, ↓vcD, vcE, ↓reduceIte, Nat.reduceEqDiff, Nat.reduceAdd, Nat.reduceMul, Nat.reduceLeDiff, Int.reduceLE, Int.reduceLT, Int.reduceEq, Int.reduceToNat, Int.reduceAdd, Int.reduceSub, Int.reduceMul, Int.reduceNeg, reduceCtorEq, Option.bind_some, Option.map_some, List.length_cons, List.length_nil, vcM, List.getElem?_toArray, List.getElem?_cons_zero, List.getElem?_cons_succ])
    have hsn : sizeN 77 t = numR 2 t := by rw [sizeN, if_neg (by omega), if_neg (by omega), if_pos rfl]
    refine callV_ret (ru16_ok w3 r B v2 t 0 hR3 (Nat.lt_of_lt_of_le hB hK3.size) hbt) ?_
    intro u wz hT
    have q3 := hT.keep.at h3 hp3r
    have q2 := hT.keep.at h2c (by omega)
    have hKz : Keep (fun i => i = r) w wz := hK3.trans hT.keep fun _ _ h => h
    cases hnum : numR 2 t with
    | error k =>
      obtain ⟨rfl, hRz⟩ := hT.er rfl k hnum
      have hk4 := num_ek hnum
      subst hk4
      have hc0 : IntKind.i64.wrap 0 = 0 := rfl
      simp (disch := first | omega | assumption | rfl | (simp only [vcS] <;> omega) | fail) only [↓ptV_l, ↓vcA, vcB, ↓vcD, vcE, ↓reduceIte, Nat.reduceEqDiff, Nat.reduceAdd, Nat.reduceMul, Nat.reduceLeDiff, Int.reduceLE, Int.reduceLT, Int.reduceEq, Int.reduceToNat, Int.reduceAdd, Int.reduceSub, Int.reduceMul, Int.reduceNeg, reduceCtorEq, Option.bind_some, Option.map_some, List.length_cons, List.length_nil, vcM, List.getElem?_toArray, List.getElem?_cons_zero, List.getElem?_cons_succ, hc0]
      exact herr _ wz v2 t (by rw [hsn, hnum]) q3 q2 hKz hRz
    | ok p =>
      obtain ⟨n, t'⟩ := p
      obtain ⟨rfl, v', hRz⟩ := hT.ok rfl n t' hnum
      obtain ⟨n0, n1, kk, hkk⟩ := num_byt hbt (by omega) hnum
      have hcv : IntKind.i64.wrap n = n := wrap_i64 (by omega) (by omega)
      have htl : t'.length ≤ 1000000000 := by rw [hkk, List.length_drop]; omega
      simp (disch := first | omega | assumption | rfl | (simp only [vcS] <;> omega) | fail) only [↓ptV_l, ↓vcA, vcB, ↓vcD, vcE, ↓reduceIte, Nat.reduceEqDiff, Nat.reduceAdd, Nat.reduceMul, Nat.reduceLeDiff, Int.reduceLE, Int.reduceLT, Int.reduceEq, Int.reduceToNat, Int.reduceAdd, Int.reduceSub, Int.reduceMul, Int.reduceNeg, reduceCtorEq, Option.bind_some, Option.map_some, List.length_cons, List.length_nil, vcM, List.getElem?_toArray, List.getElem?_cons_zero, List.getElem?_cons_succ, hcv]
      exact hfin _ n t' wz v' (by rw [hsn, hnum]) n0 n1 htl q3 q2 hKz hRz
  by_cases k78 : c = 78
  · subst k78
    (refine W_at c44_ok ?_; refine ⟨_, rfl, ?_⟩; simp (disch := first | omega | assumption | rfl | (simp only [vcS] <;> omega) | fail) only [↓ptV_l, ↓vcA, vcB, ↓vcD, vcE, ↓reduceIte, Nat.reduceEqDiff, Nat.reduceAdd, Nat.reduceMul, Nat.reduceLeDiff, Int.reduceLE, Int.reduceLT, Int.reduceEq, Int.reduceToNat, Int.reduceAdd, Int.reduceSub, Int.reduceMul, Int.reduceNeg, reduceCtorEq, Option.bind_some, Option.map_some, List.length_cons, List.length_nil, vcM, List.getElem?_toArray, List.getElem?_cons_zero, List.getElem?_cons_succ])
    (refine W_at c44_ok ?_; refine ⟨_, rfl, ?_⟩; simp (disch := first | omega | assumption | rfl | (simp only [vcS] <;> omega) | fail) only [↓ptV_l, ↓vcA, vcB, ↓vcD, vcE, ↓reduceIte, Nat.reduceEqDiff, Nat.reduceAdd, Nat.reduceMul, Nat.reduceLeDiff, Int.reduceLE, Int.reduceLT, Int.reduceEq, Int.reduceToNat, Int.reduceAdd, Int.reduceSub, Int.reduceMul, Int.reduceNeg, reduceCtorEq, Option.bind_some, Option.map_some, List.length_cons, List.length_nil, vcM, List.getElem?_toArray, List.getElem?_cons_zero, List.getElem?_cons_succ, h3])
    (refine W_at c44_ok ?_; refine ⟨_, rfl, ?_⟩; simp (disch := first | omega | assumption | rfl | (simp only [vcS] <;> omega) | fail) only [↓ptV_l, ↓vcA, vcB, ↓vcD, vcE, ↓reduceIte, Nat.reduceEqDiff, Nat.reduceAdd, Nat.reduceMul, Nat.reduceLeDiff, Int.reduceLE, Int.reduceLT, Int.reduceEq, Int.reduceToNat, Int.reduceAdd, Int.reduceSub, Int.reduceMul, Int.reduceNeg, reduceCtorEq, Option.bind_some, Option.map_some, List.length_cons, List.length_nil, vcM, List.getElem?_toArray, List.getElem?_cons_zero, List.getElem?_cons_succ])
    (refine W_at c44_ok ?_; refine ⟨_, rfl, ?_⟩; simp (disch := first | omega | assumption | rfl | (simp only [vcS] <;> omega) | fail) only [↓ptV_l, ↓vcA, vcB, ↓vcD, vcE, ↓reduceIte, Nat.reduceEqDiff, Nat.reduceAdd, Nat.reduceMul, Nat.reduceLeDiff, Int.reduceLE, Int.reduceLT, Int.reduceEq, Int.reduceToNat, Int.reduceAdd, Int.reduceSub, Int.reduceMul, Int.reduceNeg, reduceCtorEq, Option.bind_some, Option.map_some, List.length_cons, List.length_nil, vcM, List.getElem?_toArray, List.getElem?_cons_zero, List.getElem?_cons_succ, h3])
    (refine W_at c44_ok ?_; refine ⟨_, rfl, ?_⟩; simp (disch := first | omega | assumption | rfl | (simp only [vcS] <;> omega) | fail) only [↓ptV_l, ↓vcA, vcB, ↓vcD, vcE, ↓reduceIte, Nat.reduceEqDiff, Nat.reduceAdd, Nat.reduceMul, Nat.reduceLeDiff, Int.reduceLE, Int.reduceLT, Int.reduceEq, Int.reduceToNat, Int.reduceAdd, Int.reduceSub, Int.reduceMul, Int.reduceNeg, reduceCtorEq, Option.bind_some, Option.map_some, List.length_cons, List.length_nil, vcM, List.getElem?_toArray, List.getElem?_cons_zero, List.getElem?_cons_succ])
    (refine W_at c44_ok ?_; refine ⟨_, rfl, ?_⟩; simp (disch := first | omega | assumption | rfl | (simp only [vcS] <;> omega) | fail) only [↓ptV_l, ↓vcA, vcB, ↓vcD, vcE, ↓reduceIte, Nat.reduceEqDiff, Nat.reduceAdd, Nat.reduceMul, Nat.reduceLeDiff, Int.reduceLE, Int.reduceLT, Int.reduceEq, Int.reduceToNat, Int.reduceAdd, Int.reduceSub, Int.reduceMul, Int.reduceNeg, reduceCtorEq, Option.bind_some, Option.map_some, List.length_cons, List.length_nil, vcM, List.getElem?_toArray, List.getElem?_cons_zero, List.getElem?_cons_succ, h3])
    (refine W_at c44_ok ?_; refine ⟨_, rfl, ?_⟩; simp (disch := first | omega | assumption | rfl | (simp only [vcS] <;> omega) | fail) only [↓ptV_l, ↓vcA, vcB, ↓vcD, vcE, ↓reduceIte, Nat.reduceEqDiff, Nat.reduceAdd, Nat.reduceMul, Nat.reduceLeDiff, Int.reduceLE, Int.reduceLT, Int.reduceEq, Int.reduceToNat, Int.reduceAdd, Int.reduceSub, Int.reduceMul, Int.reduceNeg, reduceCtorEq, Option.bind_some, Option.map_some, List.length_cons, List.length_nil, vcM, List.getElem?_toArray, List.getElem?_cons_zero, List.getElem?_cons_succ])
    (refine W_at c44_ok ?_; refine ⟨_, rfl, ?_⟩; simp (disch := first | omega | assumption | rfl | (simp only [vcS] <;> omega) | fail) only [↓ptV_l, ↓vcA, vcB, ↓vcD, vcE, ↓reduceIte, Nat.reduceEqDiff, Nat.reduceAdd, Nat.reduceMul, Nat.reduceLeDiff, Int.reduceLE, Int.reduceLT, Int.reduceEq, Int.reduceToNat, Int.reduceAdd, Int.reduceSub, Int.reduceMul, Int.reduceNeg, reduceCtorEq, Option.bind_some, Option.map_some, List.length_cons, List.length_nil, vcM, List.getElem?_toArray, List.getElem?_cons_zero, List.getElem?_cons_succ])
    have hsn : sizeN 78 t = numR 4 t := by rw [sizeN, if_neg (by omega), if_neg (by omega), if_neg (by omega), if_pos rfl]
    refine callV_ret (ru32_ok w3 r B v2 t 0 hR3 (Nat.lt_of_lt_of_le hB hK3.size) hbt) ?_
    intro u wz hT
    have q3 := hT.keep.at h3 hp3r
    have q2 := hT.keep.at h2c (by omega)
    have hKz : Keep (fun i => i = r) w wz := hK3.trans hT.keep fun _ _ h => h
    cases hnum : numR 4 t with
    | error k =>
      obtain ⟨rfl, hRz⟩ := hT.er rfl k hnum
      have hk4 := num_ek hnum
      subst hk4
      have hc0 : IntKind.i64.wrap 0 = 0 := rfl
      simp (disch := first | omega | assumption | rfl | (simp only [vcS] <;> omega) | fail) only [↓ptV_l, ↓vcA, vcB, ↓vcD, vcE, ↓reduceIte, Nat.reduceEqDiff, Nat.reduceAdd, Nat.reduceMul, Nat.reduceLeDiff, Int.reduceLE, Int.reduceLT, Int.reduceEq, Int.reduceToNat, Int.reduceAdd, Int.reduceSub, Int.reduceMul, Int.reduceNeg, reduceCtorEq, Option.bind_some, Option.map_some, List.length_cons, List.length_nil, vcM, List.getElem?_toArray, List.getElem?_cons_zero, List.getElem?_cons_succ, hc0]
      exact herr _ wz v2 t (by rw [hsn, hnum]) q3 q2 hKz hRz
    | ok p =>
      obtain ⟨n, t'⟩ := p
      obtain ⟨rfl, v', hRz⟩ := hT.ok rfl n t' hnum
      obtain ⟨n0, n1, kk, hkk⟩ := num_byt hbt (by omega) hnum
      have hcv : IntKind.i64.wrap n = n := wrap_i64 (by omega) (by omega)
      have htl : t'.length ≤ 1000000000 := by rw [hkk, List.length_drop]; omega
      simp (disch := first | omega | assumption | rfl | (simp only [vcS] <;> omega) | fail) only [↓ptV_l, ↓vcA, vcB, ↓vcD, vcE, ↓reduceIte, Nat.reduceEqDiff, Nat.reduceAdd, Nat.reduceMul, Nat.reduceLeDiff, Int.reduceLE, Int.reduceLT, Int.reduceEq, Int.reduceToNat, Int.reduceAdd, Int.reduceSub, Int.reduceMul, Int.reduceNeg, reduceCtorEq, Option.bind_some, Option.map_some, List.length_cons, List.length_nil, vcM, List.getElem?_toArray, List.getElem?_cons_zero, List.getElem?_cons_succ, hcv]
      exact hfin _ n t' wz v' (by rw [hsn, hnum]) n0 n1 htl q3 q2 hKz hRz
  (refine W_at c44_ok ?_; refine ⟨_, rfl, ?_⟩; simp (disch := first | omega | assumption | rfl | (simp only [vcS] <;> omega) | fail) only [↓ptV_l, ↓vcA, vcB, ↓vcD, vcE, ↓reduceIte, Nat.reduceEqDiff, Nat.reduceAdd, Nat.reduceMul, Nat.reduceLeDiff, Int.reduceLE, Int.reduceLT, Int.reduceEq, Int.reduceToNat, Int.reduceAdd, Int.reduceSub, Int.reduceMul, Int.reduceNeg, reduceCtorEq, Option.bind_some, Option.map_some, List.length_cons, List.length_nil, vcM, List.getElem?_toArray, List.getElem?_cons_zero, List.getElem?_cons_succ, k0])
  (refine W_at c44_ok ?_; refine ⟨_, rfl, ?_⟩; simp (disch := first | omega | assumption | rfl | (simp only [vcS] <;> omega) | fail) only [↓ptV_l, ↓vcA, vcB, ↓vcD, vcE, ↓reduceIte, Nat.reduceEqDiff, Nat.reduceAdd, Nat.reduceMul, Nat.reduceLeDiff, Int.reduceLE, Int.reduceLT, Int.reduceEq, Int.reduceToNat, Int.reduceAdd, Int.reduceSub, Int.reduceMul, Int.reduceNeg, reduceCtorEq, Option.bind_some, Option.map_some, List.length_cons, List.length_nil, vcM, List.getElem?_toArray, List.getElem?_cons_zero, List.getElem?_cons_succ, k76, k77, k78, h3])
  (refine W_at c44_ok ?_; refine ⟨_, rfl, ?_⟩; simp (disch := first | omega | assumption | rfl | (simp only [vcS] <;> omega) | fail) only [↓ptV_l, ↓vcA, vcB, ↓vcD, vcE, ↓reduceIte, Nat.reduceEqDiff, Nat.reduceAdd, Nat.reduceMul, Nat.reduceLeDiff, Int.reduceLE, Int.reduceLT, Int.reduceEq, Int.reduceToNat, Int.reduceAdd, Int.reduceSub, Int.reduceMul, Int.reduceNeg, reduceCtorEq, Option.bind_some, Option.map_some, List.length_cons, List.length_nil, vcM, List.getElem?_toArray, List.getElem?_cons_zero, List.getElem?_cons_succ, k76, k77, k78])
  (refine W_at c44_ok ?_; refine ⟨_, rfl, ?_⟩; simp (disch := first | omega | assumption | rfl | (simp only [vcS] <;> omega) | fail) only [↓ptV_l, ↓vcA, vcB, ↓vcD, vcE, ↓reduceIte, Nat.reduceEqDiff, Nat.reduceAdd, Nat.reduceMul, Nat.reduceLeDiff, Int.reduceLE, Int.reduceLT, Int.reduceEq, Int.reduceToNat, Int.reduceAdd, Int.reduceSub, Int.reduceMul, Int.reduceNeg, reduceCtorEq, Option.bind_some, Option.map_some, List.length_cons, List.length_nil, vcM, List.getElem?_toArray, List.getElem?_cons_zero, List.getElem?_cons_succ, k76, k77, k78, h3])
  (refine W_at c44_ok ?_; refine ⟨_, rfl, ?_⟩; simp (disch := first | omega | assumption | rfl | (simp only [vcS] <;> omega) | fail) only [↓ptV_l, ↓vcA, vcB, ↓vcD, vcE, ↓reduceIte, Nat.reduceEqDiff, Nat.reduceAdd, Nat.reduceMul, Nat.reduceLeDiff, Int.reduceLE, Int.reduceLT, Int.reduceEq, Int.reduceToNat, Int.reduceAdd, Int.reduceSub, Int.reduceMul, Int.reduceNeg, reduceCtorEq, Option.bind_some, Option.map_some, List.length_cons, List.length_nil, vcM, List.getElem?_toArray, List.getElem?_cons_zero, List.getElem?_cons_succ, k76, k77, k78])
  (refine W_at c44_ok ?_; refine ⟨_, rfl, ?_⟩; simp (disch := first | omega | assumption | rfl | (simp only [vcS] <;> omega) | fail) only [↓ptV_l, ↓vcA, vcB, ↓vcD, vcE, ↓reduceIte, Nat.reduceEqDiff, Nat.reduceAdd, Nat.reduceMul, Nat.reduceLeDiff, Int.reduceLE, Int.reduceLT, Int.reduceEq, Int.reduceToNat, Int.reduceAdd, Int.reduceSub, Int.reduceMul, Int.reduceNeg, reduceCtorEq, Option.bind_some, Option.map_some, List.length_cons, List.length_nil, vcM, List.getElem?_toArray, List.getElem?_cons_zero, List.getElem?_cons_succ, k76, k77, k78, h3])
  (refine W_at c44_ok ?_; refine ⟨_, rfl, ?_⟩; simp (disch := first | omega | assumption | rfl | (simp only [vcS] <;> omega) | fail) only [↓ptV_l, ↓vcA, vcB, ↓vcD, vcE, ↓reduceIte, Nat.reduceEqDiff, Nat.reduceAdd, Nat.reduceMul, Nat.reduceLeDiff, Int.reduceLE, Int.reduceLT, Int.reduceEq, Int.reduceToNat, Int.reduceAdd, Int.reduceSub, Int.reduceMul, Int.reduceNeg, reduceCtorEq, Option.bind_some, Option.map_some, List.length_cons, List.length_nil, vcM, List.getElem?_toArray, List.getElem?_cons_zero, List.getElem?_cons_succ, k76, k77, k78])
  exact hfin _ 0 t w3 v2 (by rw [sizeN, if_neg k0, if_neg k76, if_neg k77, if_neg k78]) (by omega) (by omega) hlt h3 h2c hK3 hR3
end Go.Proofs
