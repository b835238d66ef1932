/- The pieces as they are written, digested and gathered. -/
import Derived.Test.YthjgmajfkfhdaaaP3
set_option linter.unusedSimpArgs false
set_option linter.unusedVariables false
set_option linter.constructorNameAsVariable false
namespace Go.Proofs
open Go.Vc
set_option maxRecDepth 10000

structure PS (w wj : World) (own : Nat → Nat) (p5 s6 s7 : Nat) (v5 wv6 wv7 v8 vp : Value) (m1 m2 m3 m4 mp : List Int) : Prop where
  ext : Ext w wj
  wr : WAt wj p5 v5 m1
  s : ∃ b, SumAt wj s6 wv6 m2 b
  t : ∃ b, SumAt wj s7 wv7 m3 b
  all : Own1 wj v8 m4
  pc : Own1 wj vp mp
  o0 : Mine own wj 0 (fun g => g < w.heap.size)
  o1 : Mine own wj 1 (WS p5 v5)
  o2 : Mine own wj 2 (SumB s6 wv6)
  o3 : Mine own wj 3 (SumB s7 wv7)
  o4 : Mine own wj 4 (blk v8)
  o5 : Mine own wj 5 (blk vp)
variable {w wj w' : World} {own : Nat → Nat} {p5 s6 s7 : Nat} {v5 wv6 wv7 v8 vp : Value} {m1 m2 m3 m4 mp : List Int}
theorem Mine.mono {own : Nat → Nat} {w w' : World} {k : Nat} {F : Nat → Prop} (h : Mine own w k F) (hs : w.heap.size ≤ w'.heap.size) : Mine own w' k F := ⟨h.is, fun g hg => Nat.lt_of_lt_of_le (h.lt g hg) hs⟩
theorem sumB_lt {w : World} {g : Nat} {wv : Value} {m : List Int} {b : Bool} (h : SumAt w g wv m b) : ∀ x, SumB g wv x → x < w.heap.size := by
  rintro x (rfl | hx)
  · exact lt_of_heap h.obj
  · obtain ⟨c, hc⟩ := h.wait.blk hx; exact lt_of_heap hc
theorem PS.keep (h : PS w wj own p5 s6 s7 v5 wv6 wv7 v8 vp m1 m2 m3 m4 mp) (k : Ext wj w') : PS w w' own p5 s6 s7 v5 wv6 wv7 v8 vp m1 m2 m3 m4 mp := by
  obtain ⟨b1, h1⟩ := h.s
  obtain ⟨b2, h2⟩ := h.t
  exact ⟨h.ext.ext k, h.wr.keep k (fun h => h) fun _ _ h => h, ⟨b1, h1.ext k⟩, ⟨b2, h2.ext k⟩, h.all.ext k, h.pc.ext k, h.o0.mono k.size, h.o1.mono k.size, h.o2.mono k.size, h.o3.mono k.size, h.o4.mono k.size, h.o5.mono k.size⟩
theorem PS.write {m1' : List Int} (h : PS w wj own p5 s6 s7 v5 wv6 wv7 v8 vp m1 m2 m3 m4 mp) (k : WTo wj w' p5 v5 m1') : ∃ v5', PS w w' (bump own wj 1) p5 s6 s7 v5' wv6 wv7 v8 vp m1' m2 m3 m4 mp := by
  obtain ⟨b1, h1⟩ := h.s
  obtain ⟨b2, h2⟩ := h.t
  obtain ⟨⟨v5', ha, hg⟩, hk⟩ := k
  refine ⟨v5', h.ext.trans hk fun i hi hs => h.o0.not h.o1 (by decide) hi hs, ha, ⟨b1, h1.keep hk (h.o2.not h.o1 (by decide) (.inl rfl)) fun g hg => h.o2.not h.o1 (by decide) (.inr hg)⟩, ⟨b2, h2.keep hk (h.o3.not h.o1 (by decide) (.inl rfl)) fun g hg => h.o3.not h.o1 (by decide) (.inr hg)⟩,
    h.all.keep hk fun g hg => h.o4.not h.o1 (by decide) hg, h.pc.keep hk fun g hg => h.o5.not h.o1 (by decide) hg, h.o0.other _ hk.size, h.o1.step ?_ ?_, h.o2.other _ hk.size, h.o3.other _ hk.size, h.o4.other _ hk.size, h.o5.other _ hk.size⟩
  · rintro g (rfl | hb)
    · exact .inl (.inl rfl)
    · exact (hg g hb).imp .inr id
  · rintro g (rfl | hb)
    · exact ha.lt
    · exact ha.own.lt hb
theorem PS.add6 {wv : Value} {m : List Int} {b : Bool} (h : PS w wj own p5 s6 s7 v5 wv6 wv7 v8 vp m1 m2 m3 m4 mp) (ha : SumAt w' s6 wv m b) (hk : Keep (SumB s6 wv6) wj w') (hg : ∀ y, blk wv y → blk wv6 y ∨ wj.heap.size ≤ y) : PS w w' (bump own wj 2) p5 s6 s7 v5 wv wv7 v8 vp m1 m m3 m4 mp := by
  obtain ⟨b2, h2⟩ := h.t
  refine ⟨h.ext.trans hk fun i hi hs => h.o0.not h.o2 (by decide) hi hs, h.wr.keep hk (h.o1.not h.o2 (by decide) (.inl rfl)) fun g hg => h.o1.not h.o2 (by decide) (.inr hg), ⟨b, ha⟩, ⟨b2, h2.keep hk (h.o3.not h.o2 (by decide) (.inl rfl)) fun g hg => h.o3.not h.o2 (by decide) (.inr hg)⟩,
    h.all.keep hk fun g hg => h.o4.not h.o2 (by decide) hg, h.pc.keep hk fun g hg => h.o5.not h.o2 (by decide) hg, h.o0.other _ hk.size, h.o1.other _ hk.size, h.o2.step ?_ (sumB_lt ha), h.o3.other _ hk.size, h.o4.other _ hk.size, h.o5.other _ hk.size⟩
  rintro g (rfl | hb)
  · exact .inl (.inl rfl)
  · exact (hg g hb).imp .inr id
theorem PS.add7 {wv : Value} {m : List Int} {b : Bool} (h : PS w wj own p5 s6 s7 v5 wv6 wv7 v8 vp m1 m2 m3 m4 mp) (ha : SumAt w' s7 wv m b) (hk : Keep (SumB s7 wv7) wj w') (hg : ∀ y, blk wv y → blk wv7 y ∨ wj.heap.size ≤ y) : PS w w' (bump own wj 3) p5 s6 s7 v5 wv6 wv v8 vp m1 m2 m m4 mp := by
  obtain ⟨b1, h1⟩ := h.s
  refine ⟨h.ext.trans hk fun i hi hs => h.o0.not h.o3 (by decide) hi hs, h.wr.keep hk (h.o1.not h.o3 (by decide) (.inl rfl)) fun g hg => h.o1.not h.o3 (by decide) (.inr hg), ⟨b1, h1.keep hk (h.o2.not h.o3 (by decide) (.inl rfl)) fun g hg => h.o2.not h.o3 (by decide) (.inr hg)⟩, ⟨b, ha⟩,
    h.all.keep hk fun g hg => h.o4.not h.o3 (by decide) hg, h.pc.keep hk fun g hg => h.o5.not h.o3 (by decide) hg, h.o0.other _ hk.size, h.o1.other _ hk.size, h.o2.other _ hk.size, h.o3.step ?_ (sumB_lt ha), h.o4.other _ hk.size, h.o5.other _ hk.size⟩
  rintro g (rfl | hb)
  · exact .inl (.inl rfl)
  · exact (hg g hb).imp .inr id
theorem PS.app8 {v : Value} {m : List Int} (h : PS w wj own p5 s6 s7 v5 wv6 wv7 v8 vp m1 m2 m3 m4 mp) (ha : Own1 w' v m) (hk : Keep (blk v8) wj w') (hg : ∀ y, blk v y → blk v8 y ∨ wj.heap.size ≤ y) : PS w w' (bump own wj 4) p5 s6 s7 v5 wv6 wv7 v vp m1 m2 m3 m mp := by
  obtain ⟨b1, h1⟩ := h.s
  obtain ⟨b2, h2⟩ := h.t
  exact ⟨h.ext.trans hk fun i hi hs => h.o0.not h.o4 (by decide) hi hs, h.wr.keep hk (h.o1.not h.o4 (by decide) (.inl rfl)) fun g hg => h.o1.not h.o4 (by decide) (.inr hg), ⟨b1, h1.keep hk (h.o2.not h.o4 (by decide) (.inl rfl)) fun g hg => h.o2.not h.o4 (by decide) (.inr hg)⟩,
    ⟨b2, h2.keep hk (h.o3.not h.o4 (by decide) (.inl rfl)) fun g hg => h.o3.not h.o4 (by decide) (.inr hg)⟩, ha, h.pc.keep hk fun g hg => h.o5.not h.o4 (by decide) hg, h.o0.other _ hk.size, h.o1.other _ hk.size, h.o2.other _ hk.size, h.o3.other _ hk.size, h.o4.step hg fun g hg => ha.lt hg, h.o5.other _ hk.size⟩
theorem PS.newp {u : Value} {m : List Int} (h : PS w wj own p5 s6 s7 v5 wv6 wv7 v8 vp m1 m2 m3 m4 mp) (k : New wj w' u m) : PS w w' (bump own wj 5) p5 s6 s7 v5 wv6 wv7 v8 u m1 m2 m3 m4 m := by
  obtain ⟨b1, h1⟩ := h.s
  obtain ⟨b2, h2⟩ := h.t
  have hk := k.ext
  exact ⟨h.ext.ext hk, h.wr.keep hk (fun h => h) fun _ _ h => h, ⟨b1, h1.ext hk⟩, ⟨b2, h2.ext hk⟩, h.all.ext hk, k.own, h.o0.other _ hk.size, h.o1.other _ hk.size, h.o2.other _ hk.size, h.o3.other _ hk.size, h.o4.other _ hk.size,
    h.o5.step (fun g hg => .inr (k.new g hg)) fun g hg => k.own.lt hg⟩
theorem blk_slice (q : Addr) (n c : Nat) : blk (.slice (some q) n c) q.block := rfl
set_option maxHeartbeats 1600000 in
/-- Byte by byte. -/
theorem bytewise (Q : Ending → World → Prop) (parts numbers : Value) (hmp : byt mp) (hm3 : byt m3) (hl : m3.length + mp.length ≤ 400000000) (iI : Nat)
    (hdone : ∀ wj own wv7' tl, PS w wj own p5 s6 s7 v5 wv6 wv7' v8 vp m1 m2 (m3 ++ mp) m4 mp → W Try.prog Q 3 22 ((0, parts) :: (1, numbers) :: (5, .pointer (some ⟨p5, 0, none⟩)) :: (6, .pointer (some ⟨s6, 0, none⟩)) :: (7, .pointer (some ⟨s7, 0, none⟩)) :: (8, v8) :: (9, .int .i64 (iI : Nat)) :: tl) wj) :
    ∀ (k j : Nat) (wj : World) (own : Nat → Nat) (wv7 : Value) (tl : Env), k + j = mp.length → PS w wj own p5 s6 s7 v5 wv6 wv7 v8 vp m1 m2 (m3 ++ mp.take j) m4 mp →
      W Try.prog Q 3 28 ((0, parts) :: (1, numbers) :: (5, .pointer (some ⟨p5, 0, none⟩)) :: (6, .pointer (some ⟨s6, 0, none⟩)) :: (7, .pointer (some ⟨s7, 0, none⟩)) :: (8, v8) :: (9, .int .i64 (iI : Nat)) :: (66, vp) :: (67, .int .i64 (mp.length : Nat)) :: (68, .int .i64 (j : Nat)) :: tl) wj := by
  intro k
  induction k with
  | zero =>
    intro j wj own wv7 tl hj hP
    have hil : ¬ ((j : Int) < (mp.length : Int)) := by omega
    rw [List.take_of_length_le (by omega)] at hP
    (refine W_at c3_ok ?_; refine ⟨_, rfl, ?_⟩; simp (disch := first | omega | assumption | rfl | (simp only [vcS] <;> omega) | fail) only [↓ptV_l, ↓vcA, vcB, ↓vcD, vcE, ↓reduceIte, Nat.reduceEqDiff, Nat.reduceAdd, Nat.reduceMul, Nat.reduceLeDiff, Int.reduceLE, Int.reduceLT, Int.reduceEq, Int.reduceToNat, Int.reduceAdd, Int.reduceSub, Int.reduceMul, Int.reduceNeg, reduceCtorEq, Option.bind_some, Option.map_some, List.length_cons, List.length_nil, vcM, List.getElem?_toArray, List.getElem?_cons_zero, List.getElem?_cons_succ, hil])
    (refine W_at c3_ok ?_; refine ⟨_, rfl, ?_⟩; simp (disch := first | omega | assumption | rfl | (simp only [vcS] <;> omega) | fail) only [↓ptV_l, ↓vcA, vcB, ↓vcD, vcE, ↓reduceIte, Nat.reduceEqDiff, Nat.reduceAdd, Nat.reduceMul, Nat.reduceLeDiff, Int.reduceLE, Int.reduceLT, Int.reduceEq, Int.reduceToNat, Int.reduceAdd, Int.reduceSub, Int.reduceMul, Int.reduceNeg, reduceCtorEq, Option.bind_some, Option.map_some, List.length_cons, List.length_nil, vcM, List.getElem?_toArray, List.getElem?_cons_zero, List.getElem?_cons_succ])
    exact hdone wj own wv7 _ hP
  | succ k ih =>
    intro j wj own wv7 tl hj hP
    have hil : ((j : Int) < (mp.length : Int)) := by omega
    have hj0 : j < mp.length := by omega
    have c3 : 0 ≤ (j : Int) ∧ (j : Int) < (mp.length : Nat) := by omega
    obtain ⟨b, o, c, rfl, hcell⟩ := hP.pc.rd.at (i := j) hj0
    (refine W_at c3_ok ?_; refine ⟨_, rfl, ?_⟩; simp (disch := first | omega | assumption | rfl | (simp only [vcS] <;> omega) | fail) only [↓ptV_l, ↓vcA, vcB, ↓vcD, vcE, ↓reduceIte, Nat.reduceEqDiff, Nat.reduceAdd, Nat.reduceMul, Nat.reduceLeDiff, Int.reduceLE, Int.reduceLT, Int.reduceEq, Int.reduceToNat, Int.reduceAdd, Int.reduceSub, Int.reduceMul, Int.reduceNeg, reduceCtorEq, Option.bind_some, Option.map_some, List.length_cons, List.length_nil, vcM, List.getElem?_toArray, List.getElem?_cons_zero, List.getElem?_cons_succ, hil])
    (refine W_at c3_ok ?_; refine ⟨_, rfl, ?_⟩; simp (disch := first | omega | assumption | rfl | (simp only [vcS] <;> omega) | fail) only [↓ptV_l, ↓vcA, vcB, ↓vcD, vcE, ↓reduceIte, Nat.reduceEqDiff, Nat.reduceAdd, Nat.reduceMul, Nat.reduceLeDiff, Int.reduceLE, Int.reduceLT, Int.reduceEq, Int.reduceToNat, Int.reduceAdd, Int.reduceSub, Int.reduceMul, Int.reduceNeg, reduceCtorEq, Option.bind_some, Option.map_some, List.length_cons, List.length_nil, vcM, List.getElem?_toArray, List.getElem?_cons_zero, List.getElem?_cons_succ])
    (refine W_at c3_ok ?_; refine ⟨_, rfl, ?_⟩; simp (disch := first | omega | assumption | rfl | (simp only [vcS] <;> omega) | fail) only [↓ptV_l, ↓vcA, vcB, ↓vcD, vcE, ↓reduceIte, Nat.reduceEqDiff, Nat.reduceAdd, Nat.reduceMul, Nat.reduceLeDiff, Int.reduceLE, Int.reduceLT, Int.reduceEq, Int.reduceToNat, Int.reduceAdd, Int.reduceSub, Int.reduceMul, Int.reduceNeg, reduceCtorEq, Option.bind_some, Option.map_some, List.length_cons, List.length_nil, vcM, List.getElem?_toArray, List.getElem?_cons_zero, List.getElem?_cons_succ, c3, Int.toNat_natCast, Nat.mul_one, hcell])
    have hL : New wj (wj.alloc (.cells (bv [mp[j]]).toArray 5)) (.slice (some ⟨wj.heap.size, 0, none⟩) 1 1) [mp[j]] := New.lit (w := wj) (bs := [mp[j]]) (by simp; decide)
    have hbv : (bv [mp[j]]).toArray = #[.int .u8 mp[j]] := rfl
    rw [hbv] at hL
    (refine W_at c3_ok ?_; refine ⟨_, rfl, ?_⟩; simp (disch := first | omega | assumption | rfl | (simp only [vcS] <;> omega) | fail) only [↓ptV_l, ↓vcA, vcB, ↓vcD, vcE, ↓reduceIte, Nat.reduceEqDiff, Nat.reduceAdd, Nat.reduceMul, Nat.reduceLeDiff, Int.reduceLE, Int.reduceLT, Int.reduceEq, Int.reduceToNat, Int.reduceAdd, Int.reduceSub, Int.reduceMul, Int.reduceNeg, reduceCtorEq, Option.bind_some, Option.map_some, List.length_cons, List.length_nil, vcM, List.getElem?_toArray, List.getElem?_cons_zero, List.getElem?_cons_succ])
    have hK := hP.keep hL.ext
    obtain ⟨b2, ht⟩ := hK.t
    have hb1 := hmp mp[j] (List.getElem_mem _)
    have htk : mp.take (j + 1) = mp.take j ++ [mp[j]] := List.take_succ_eq_append_getElem hj0
    have hs7 : s7 < wj.heap.size := hP.o3.lt _ (.inl rfl)
    refine callV_ret (add_ok _ s7 wv7 _ (m3 ++ mp.take j) [mp[j]] b2 ht hL.own.rd ?_ ?_ (byt_app hm3 (byt_take hmp _)) ?_) ?_
    · intro _ q n c e
      injection e with e1 e2 e3
      injection e1 with e4
      rw [← e4]; simp; omega
    · intro x hx; simp at hx; rw [hx]; exact hb1
    · simp; omega
    rintro _ w9 ⟨wv', h1, h2, h3⟩
    first | (simp (disch := first | omega | assumption | rfl | (simp only [vcS] <;> omega) | fail) only [↓ptV_l, ↓vcA, vcB, ↓vcD, vcE, ↓reduceIte, Nat.reduceEqDiff, Nat.reduceAdd, Nat.reduceMul, Nat.reduceLeDiff, Int.reduceLE, Int.reduceLT, Int.reduceEq, Int.reduceToNat, Int.reduceAdd, Int.reduceSub, Int.reduceMul, Int.reduceNeg, reduceCtorEq, Option.bind_some, Option.map_some, List.length_cons, List.length_nil, vcM, List.getElem?_toArray, List.getElem?_cons_zero, List.getElem?_cons_succ]) | skip
    have hK9 := hK.add7 h1 h2 h3
    rw [List.append_assoc, ← htk] at hK9
    have wi : IntKind.i64.wrap ((j : Int) + 1) = ((j + 1 : Nat) : Int) := wrap_i64 (by have := hP.pc.rd.mx; omega) (by omega)
    (refine W_at c3_ok ?_; refine ⟨_, rfl, ?_⟩; simp (disch := first | omega | assumption | rfl | (simp only [vcS] <;> omega) | fail) only [↓ptV_l, ↓vcA, vcB, ↓vcD, vcE, ↓reduceIte, Nat.reduceEqDiff, Nat.reduceAdd, Nat.reduceMul, Nat.reduceLeDiff, Int.reduceLE, Int.reduceLT, Int.reduceEq, Int.reduceToNat, Int.reduceAdd, Int.reduceSub, Int.reduceMul, Int.reduceNeg, reduceCtorEq, Option.bind_some, Option.map_some, List.length_cons, List.length_nil, vcM, List.getElem?_toArray, List.getElem?_cons_zero, List.getElem?_cons_succ, wi])
    (refine W_at c3_ok ?_; refine ⟨_, rfl, ?_⟩; simp (disch := first | omega | assumption | rfl | (simp only [vcS] <;> omega) | fail) only [↓ptV_l, ↓vcA, vcB, ↓vcD, vcE, ↓reduceIte, Nat.reduceEqDiff, Nat.reduceAdd, Nat.reduceMul, Nat.reduceLeDiff, Int.reduceLE, Int.reduceLT, Int.reduceEq, Int.reduceToNat, Int.reduceAdd, Int.reduceSub, Int.reduceMul, Int.reduceNeg, reduceCtorEq, Option.bind_some, Option.map_some, List.length_cons, List.length_nil, vcM, List.getElem?_toArray, List.getElem?_cons_zero, List.getElem?_cons_succ])
    exact ih (j + 1) w9 _ wv' _ (by omega) hK9
set_option maxHeartbeats 3200000 in
/-- The pieces one by one. -/
theorem pieces (Q : Ending → World → Prop) (parts numbers : Value) (ps : List (List Int)) (ns : List Int) (hps : PrtAt w parts ps) (hns : NumAt w numbers ns) (K : Nat) (hK : K = min ps.length 12)
    (hdone : ∀ wj own v5 wv6 wv7 v8 vp mp tl (i : Nat), PS w wj own p5 s6 s7 v5 wv6 wv7 v8 vp (encP ps ns 0 K) (encP ps ns 0 K) (encP ps ns 0 K) (encP ps ns 0 K) mp → W Try.prog Q 3 20 ((0, parts) :: (1, numbers) :: (5, .pointer (some ⟨p5, 0, none⟩)) :: (6, .pointer (some ⟨s6, 0, none⟩)) :: (7, .pointer (some ⟨s7, 0, none⟩)) :: (8, v8) :: (9, .int .i64 (i : Nat)) :: tl) wj) :
    ∀ (k i : Nat) (wj : World) (own : Nat → Nat) (v5 wv6 wv7 v8 vp : Value) (mp : List Int) (tl : Env), k + i = K → PS w wj own p5 s6 s7 v5 wv6 wv7 v8 vp (encP ps ns 0 i) (encP ps ns 0 i) (encP ps ns 0 i) (encP ps ns 0 i) mp →
      W Try.prog Q 3 44 ((0, parts) :: (1, numbers) :: (5, .pointer (some ⟨p5, 0, none⟩)) :: (6, .pointer (some ⟨s6, 0, none⟩)) :: (7, .pointer (some ⟨s7, 0, none⟩)) :: (8, v8) :: (9, .int .i64 (i : Nat)) :: tl) wj := by
  intro k
  have hlen := hps.len
  have hlenN := hns.len
  induction k with
  | zero =>
    intro i wj own v5 wv6 wv7 v8 vp mp tl hi hP
    obtain rfl : i = K := by omega
    by_cases hil : (i : Int) < (ps.length : Nat)
    · have h12 : ¬ (i : Int) < 12 := by omega
      (refine W_at c3_ok ?_; refine ⟨_, rfl, ?_⟩; simp (disch := first | omega | assumption | rfl | (simp only [vcS] <;> omega) | fail) only [↓ptV_l, ↓vcA, vcB, ↓vcD, vcE, ↓reduceIte, Nat.reduceEqDiff, Nat.reduceAdd, Nat.reduceMul, Nat.reduceLeDiff, Int.reduceLE, Int.reduceLT, Int.reduceEq, Int.reduceToNat, Int.reduceAdd, Int.reduceSub, Int.reduceMul, Int.reduceNeg, reduceCtorEq, Option.bind_some, Option.map_some, List.length_cons, List.length_nil, vcM, List.getElem?_toArray, List.getElem?_cons_zero, List.getElem?_cons_succ, hlen, hil, h12])
      (refine W_at c3_ok ?_; refine ⟨_, rfl, ?_⟩; simp (disch := first | omega | assumption | rfl | (simp only [vcS] <;> omega) | fail) only [↓ptV_l, ↓vcA, vcB, ↓vcD, vcE, ↓reduceIte, Nat.reduceEqDiff, Nat.reduceAdd, Nat.reduceMul, Nat.reduceLeDiff, Int.reduceLE, Int.reduceLT, Int.reduceEq, Int.reduceToNat, Int.reduceAdd, Int.reduceSub, Int.reduceMul, Int.reduceNeg, reduceCtorEq, Option.bind_some, Option.map_some, List.length_cons, List.length_nil, vcM, List.getElem?_toArray, List.getElem?_cons_zero, List.getElem?_cons_succ])
      exact hdone wj own v5 wv6 wv7 v8 vp mp _ i hP
    · (refine W_at c3_ok ?_; refine ⟨_, rfl, ?_⟩; simp (disch := first | omega | assumption | rfl | (simp only [vcS] <;> omega) | fail) only [↓ptV_l, ↓vcA, vcB, ↓vcD, vcE, ↓reduceIte, Nat.reduceEqDiff, Nat.reduceAdd, Nat.reduceMul, Nat.reduceLeDiff, Int.reduceLE, Int.reduceLT, Int.reduceEq, Int.reduceToNat, Int.reduceAdd, Int.reduceSub, Int.reduceMul, Int.reduceNeg, reduceCtorEq, Option.bind_some, Option.map_some, List.length_cons, List.length_nil, vcM, List.getElem?_toArray, List.getElem?_cons_zero, List.getElem?_cons_succ, hlen, hil])
      (refine W_at c3_ok ?_; refine ⟨_, rfl, ?_⟩; simp (disch := first | omega | assumption | rfl | (simp only [vcS] <;> omega) | fail) only [↓ptV_l, ↓vcA, vcB, ↓vcD, vcE, ↓reduceIte, Nat.reduceEqDiff, Nat.reduceAdd, Nat.reduceMul, Nat.reduceLeDiff, Int.reduceLE, Int.reduceLT, Int.reduceEq, Int.reduceToNat, Int.reduceAdd, Int.reduceSub, Int.reduceMul, Int.reduceNeg, reduceCtorEq, Option.bind_some, Option.map_some, List.length_cons, List.length_nil, vcM, List.getElem?_toArray, List.getElem?_cons_zero, List.getElem?_cons_succ])
      exact hdone wj own v5 wv6 wv7 v8 vp mp _ i hP
  | succ k ih =>
    intro i wj own v5 wv6 wv7 v8 vp mp tl hi hP
    have hil : (i : Int) < (ps.length : Nat) := by omega
    have h12 : (i : Int) < 12 := by omega
    have hi0 : i < ps.length := by omega
    have c3 : 0 ≤ (i : Int) ∧ (i : Int) < (ps.length : Nat) := by omega
    obtain ⟨b, o, c, x, rfl, hcell, hx⟩ := hps.at' i hi0
    replace hcell := cell_ext hcell hP.ext
    have hxl := hx.len
    (refine W_at c3_ok ?_; refine ⟨_, rfl, ?_⟩; simp (disch := first | omega | assumption | rfl | (simp only [vcS] <;> omega) | fail) only [↓ptV_l, ↓vcA, vcB, ↓vcD, vcE, ↓reduceIte, Nat.reduceEqDiff, Nat.reduceAdd, Nat.reduceMul, Nat.reduceLeDiff, Int.reduceLE, Int.reduceLT, Int.reduceEq, Int.reduceToNat, Int.reduceAdd, Int.reduceSub, Int.reduceMul, Int.reduceNeg, reduceCtorEq, Option.bind_some, Option.map_some, List.length_cons, List.length_nil, vcM, List.getElem?_toArray, List.getElem?_cons_zero, List.getElem?_cons_succ, hlen, hil, h12])
    (refine W_at c3_ok ?_; refine ⟨_, rfl, ?_⟩; simp (disch := first | omega | assumption | rfl | (simp only [vcS] <;> omega) | fail) only [↓ptV_l, ↓vcA, vcB, ↓vcD, vcE, ↓reduceIte, Nat.reduceEqDiff, Nat.reduceAdd, Nat.reduceMul, Nat.reduceLeDiff, Int.reduceLE, Int.reduceLT, Int.reduceEq, Int.reduceToNat, Int.reduceAdd, Int.reduceSub, Int.reduceMul, Int.reduceNeg, reduceCtorEq, Option.bind_some, Option.map_some, List.length_cons, List.length_nil, vcM, List.getElem?_toArray, List.getElem?_cons_zero, List.getElem?_cons_succ])
    (refine W_at c3_ok ?_; refine ⟨_, rfl, ?_⟩; simp (disch := first | omega | assumption | rfl | (simp only [vcS] <;> omega) | fail) only [↓ptV_l, ↓vcA, vcB, ↓vcD, vcE, ↓reduceIte, Nat.reduceEqDiff, Nat.reduceAdd, Nat.reduceMul, Nat.reduceLeDiff, Int.reduceLE, Int.reduceLT, Int.reduceEq, Int.reduceToNat, Int.reduceAdd, Int.reduceSub, Int.reduceMul, Int.reduceNeg, reduceCtorEq, Option.bind_some, Option.map_some, List.length_cons, List.length_nil, vcM, List.getElem?_toArray, List.getElem?_cons_zero, List.getElem?_cons_succ, c3, Int.toNat_natCast, Nat.mul_one, hcell])
    (refine W_at c3_ok ?_; refine ⟨_, rfl, ?_⟩; simp (disch := first | omega | assumption | rfl | (simp only [vcS] <;> omega) | fail) only [↓ptV_l, ↓vcA, vcB, ↓vcD, vcE, ↓reduceIte, Nat.reduceEqDiff, Nat.reduceAdd, Nat.reduceMul, Nat.reduceLeDiff, Int.reduceLE, Int.reduceLT, Int.reduceEq, Int.reduceToNat, Int.reduceAdd, Int.reduceSub, Int.reduceMul, Int.reduceNeg, reduceCtorEq, Option.bind_some, Option.map_some, List.length_cons, List.length_nil, vcM, List.getElem?_toArray, List.getElem?_cons_zero, List.getElem?_cons_succ, hxl])
    have hcp : cutP ps i = ps[i].take 400 := by unfold cutP; rw [List.getD_eq_getElem?_getD, List.getElem?_eq_getElem hi0]; rfl
    have hcb := cutP_byt (ps := ps) hps.byt i
    have hcl := cutP_len ps i
    have hnb := numP_b hns.rng (i := i) (by omega)
    have hE := encP_b (ns := ns) hps.byt 0 i
    have hpb := pieceF_b (ns := ns) hps.byt i
    have rest : ∀ y tl, Rd w y (cutP ps i) → W Try.prog Q 3 34 ((0, .slice (some ⟨b, o, none⟩) ps.length c) :: (1, numbers) :: (5, .pointer (some ⟨p5, 0, none⟩)) :: (6, .pointer (some ⟨s6, 0, none⟩)) :: (7, .pointer (some ⟨s7, 0, none⟩)) :: (8, v8) :: (9, .int .i64 (i : Nat)) :: (10, y) :: (11, .int .u64 (numP ns i)) :: tl) wj := by
      intro y tl hy
      (refine W_at c3_ok ?_; refine ⟨_, rfl, ?_⟩; simp (disch := first | omega | assumption | rfl | (simp only [vcS] <;> omega) | fail) only [↓ptV_l, ↓vcA, vcB, ↓vcD, vcE, ↓reduceIte, Nat.reduceEqDiff, Nat.reduceAdd, Nat.reduceMul, Nat.reduceLeDiff, Int.reduceLE, Int.reduceLT, Int.reduceEq, Int.reduceToNat, Int.reduceAdd, Int.reduceSub, Int.reduceMul, Int.reduceNeg, reduceCtorEq, Option.bind_some, Option.map_some, List.length_cons, List.length_nil, vcM, List.getElem?_toArray, List.getElem?_cons_zero, List.getElem?_cons_succ])
      refine callV_ret (bytes_ok wj p5 v5 _ y _ hP.wr (hy.ext hP.ext) (fun w' hk => hy.ext (hP.ext.trans hk fun g hg hs => hP.o0.not hP.o1 (by decide) hg hs)) (by omega)) ?_
      rintro _ w1 hw1
      first | (simp (disch := first | omega | assumption | rfl | (simp only [vcS] <;> omega) | fail) only [↓ptV_l, ↓vcA, vcB, ↓vcD, vcE, ↓reduceIte, Nat.reduceEqDiff, Nat.reduceAdd, Nat.reduceMul, Nat.reduceLeDiff, Int.reduceLE, Int.reduceLT, Int.reduceEq, Int.reduceToNat, Int.reduceAdd, Int.reduceSub, Int.reduceMul, Int.reduceNeg, reduceCtorEq, Option.bind_some, Option.map_some, List.length_cons, List.length_nil, vcM, List.getElem?_toArray, List.getElem?_cons_zero, List.getElem?_cons_succ]) | skip
      obtain ⟨v5a, hP1⟩ := hP.write hw1
      (refine W_at c3_ok ?_; refine ⟨_, rfl, ?_⟩; simp (disch := first | omega | assumption | rfl | (simp only [vcS] <;> omega) | fail) only [↓ptV_l, ↓vcA, vcB, ↓vcD, vcE, ↓reduceIte, Nat.reduceEqDiff, Nat.reduceAdd, Nat.reduceMul, Nat.reduceLeDiff, Int.reduceLE, Int.reduceLT, Int.reduceEq, Int.reduceToNat, Int.reduceAdd, Int.reduceSub, Int.reduceMul, Int.reduceNeg, reduceCtorEq, Option.bind_some, Option.map_some, List.length_cons, List.length_nil, vcM, List.getElem?_toArray, List.getElem?_cons_zero, List.getElem?_cons_succ])
      refine callV_ret (u64_ok w1 p5 v5a _ _ hP1.wr (by have := (sizeF_b (n := (cutP ps i).length) (by omega)).2; rw [List.length_append, List.length_append]; omega)) ?_
      rintro _ w2 hw2
      first | (simp (disch := first | omega | assumption | rfl | (simp only [vcS] <;> omega) | fail) only [↓ptV_l, ↓vcA, vcB, ↓vcD, vcE, ↓reduceIte, Nat.reduceEqDiff, Nat.reduceAdd, Nat.reduceMul, Nat.reduceLeDiff, Int.reduceLE, Int.reduceLT, Int.reduceEq, Int.reduceToNat, Int.reduceAdd, Int.reduceSub, Int.reduceMul, Int.reduceNeg, reduceCtorEq, Option.bind_some, Option.map_some, List.length_cons, List.length_nil, vcM, List.getElem?_toArray, List.getElem?_cons_zero, List.getElem?_cons_succ]) | skip
      obtain ⟨v5b, hP2⟩ := hP1.write hw2
      have e1 : encP ps ns 0 i ++ (sizeF (cutP ps i).length ++ cutP ps i) ++ lowF 8 (numP ns i) = encP ps ns 0 (i + 1) := by
        rw [encP_succ, pieceF, List.append_assoc]
      rw [e1] at hP2
      have hy2 := hy.ext hP2.ext
      (refine W_at c3_ok ?_; refine ⟨_, rfl, ?_⟩; simp (disch := first | omega | assumption | rfl | (simp only [vcS] <;> omega) | fail) only [↓ptV_l, ↓vcA, vcB, ↓vcD, vcE, ↓reduceIte, Nat.reduceEqDiff, Nat.reduceAdd, Nat.reduceMul, Nat.reduceLeDiff, Int.reduceLE, Int.reduceLT, Int.reduceEq, Int.reduceToNat, Int.reduceAdd, Int.reduceSub, Int.reduceMul, Int.reduceNeg, reduceCtorEq, Option.bind_some, Option.map_some, List.length_cons, List.length_nil, vcM, List.getElem?_toArray, List.getElem?_cons_zero, List.getElem?_cons_succ])
      refine callV_ret (text_ok w2 y _ hy2 (by omega)) ?_
      rintro u3 w3 hu3
      first | (simp (disch := first | omega | assumption | rfl | (simp only [vcS] <;> omega) | fail) only [↓ptV_l, ↓vcA, vcB, ↓vcD, vcE, ↓reduceIte, Nat.reduceEqDiff, Nat.reduceAdd, Nat.reduceMul, Nat.reduceLeDiff, Int.reduceLE, Int.reduceLT, Int.reduceEq, Int.reduceToNat, Int.reduceAdd, Int.reduceSub, Int.reduceMul, Int.reduceNeg, reduceCtorEq, Option.bind_some, Option.map_some, List.length_cons, List.length_nil, vcM, List.getElem?_toArray, List.getElem?_cons_zero, List.getElem?_cons_succ]) | skip
      refine callV_ret (low_ok w3 (numP ns i) 8 hnb (by omega)) ?_
      rintro u4 w4 hu4
      first | (simp (disch := first | omega | assumption | rfl | (simp only [vcS] <;> omega) | fail) only [↓ptV_l, ↓vcA, vcB, ↓vcD, vcE, ↓reduceIte, Nat.reduceEqDiff, Nat.reduceAdd, Nat.reduceMul, Nat.reduceLeDiff, Int.reduceLE, Int.reduceLT, Int.reduceEq, Int.reduceToNat, Int.reduceAdd, Int.reduceSub, Int.reduceMul, Int.reduceNeg, reduceCtorEq, Option.bind_some, Option.map_some, List.length_cons, List.length_nil, vcM, List.getElem?_toArray, List.getElem?_cons_zero, List.getElem?_cons_succ]) | skip
      refine appN (hu3.keep hu4.ext) hu4.own.rd (by have := (sizeF_b (n := (cutP ps i).length) (by omega)).2; rw [List.length_append, lowF_len]; omega) fun v5' w5 h5 _ _ => ?_
      first | (simp (disch := first | omega | assumption | rfl | (simp only [vcS] <;> omega) | fail) only [↓ptV_l, ↓vcA, vcB, ↓vcD, vcE, ↓reduceIte, Nat.reduceEqDiff, Nat.reduceAdd, Nat.reduceMul, Nat.reduceLeDiff, Int.reduceLE, Int.reduceLT, Int.reduceEq, Int.reduceToNat, Int.reduceAdd, Int.reduceSub, Int.reduceMul, Int.reduceNeg, reduceCtorEq, Option.bind_some, Option.map_some, List.length_cons, List.length_nil, vcM, List.getElem?_toArray, List.getElem?_cons_zero, List.getElem?_cons_succ]) | skip
      have e2 : sizeF (cutP ps i).length ++ cutP ps i ++ lowF 8 (numP ns i) = pieceF ps ns i := rfl
      rw [e2] at h5
      have hP5 := hP2.newp h5
      (refine W_at c3_ok ?_; refine ⟨_, rfl, ?_⟩; simp (disch := first | omega | assumption | rfl | (simp only [vcS] <;> omega) | fail) only [↓ptV_l, ↓vcA, vcB, ↓vcD, vcE, ↓reduceIte, Nat.reduceEqDiff, Nat.reduceAdd, Nat.reduceMul, Nat.reduceLeDiff, Int.reduceLE, Int.reduceLT, Int.reduceEq, Int.reduceToNat, Int.reduceAdd, Int.reduceSub, Int.reduceMul, Int.reduceNeg, reduceCtorEq, Option.bind_some, Option.map_some, List.length_cons, List.length_nil, vcM, List.getElem?_toArray, List.getElem?_cons_zero, List.getElem?_cons_succ])
      refine appB hP5.all hP5.pc.rd (by omega) fun v6' w6 h6 hk6 hg6 => ?_
      first | (simp (disch := first | omega | assumption | rfl | (simp only [vcS] <;> omega) | fail) only [↓ptV_l, ↓vcA, vcB, ↓vcD, vcE, ↓reduceIte, Nat.reduceEqDiff, Nat.reduceAdd, Nat.reduceMul, Nat.reduceLeDiff, Int.reduceLE, Int.reduceLT, Int.reduceEq, Int.reduceToNat, Int.reduceAdd, Int.reduceSub, Int.reduceMul, Int.reduceNeg, reduceCtorEq, Option.bind_some, Option.map_some, List.length_cons, List.length_nil, vcM, List.getElem?_toArray, List.getElem?_cons_zero, List.getElem?_cons_succ]) | skip
      have hP6 := hP5.app8 h6 hk6 hg6
      rw [← encP_succ] at hP6
      (refine W_at c3_ok ?_; refine ⟨_, rfl, ?_⟩; simp (disch := first | omega | assumption | rfl | (simp only [vcS] <;> omega) | fail) only [↓ptV_l, ↓vcA, vcB, ↓vcD, vcE, ↓reduceIte, Nat.reduceEqDiff, Nat.reduceAdd, Nat.reduceMul, Nat.reduceLeDiff, Int.reduceLE, Int.reduceLT, Int.reduceEq, Int.reduceToNat, Int.reduceAdd, Int.reduceSub, Int.reduceMul, Int.reduceNeg, reduceCtorEq, Option.bind_some, Option.map_some, List.length_cons, List.length_nil, vcM, List.getElem?_toArray, List.getElem?_cons_zero, List.getElem?_cons_succ])
      obtain ⟨b6, hs6⟩ := hP6.s
      refine callV_ret (add_ok w6 s6 wv6 v5' _ _ b6 hs6 hP6.pc.rd ?_ hpb.1 hE.1 (by omega)) ?_
      · rintro _ q n c rfl e
        exact hP6.o5.not hP6.o2 (by decide) (blk_slice q n c) (.inl e)
      rintro _ w7 ⟨wv6', h7, hk7, hg7⟩
      first | (simp (disch := first | omega | assumption | rfl | (simp only [vcS] <;> omega) | fail) only [↓ptV_l, ↓vcA, vcB, ↓vcD, vcE, ↓reduceIte, Nat.reduceEqDiff, Nat.reduceAdd, Nat.reduceMul, Nat.reduceLeDiff, Int.reduceLE, Int.reduceLT, Int.reduceEq, Int.reduceToNat, Int.reduceAdd, Int.reduceSub, Int.reduceMul, Int.reduceNeg, reduceCtorEq, Option.bind_some, Option.map_some, List.length_cons, List.length_nil, vcM, List.getElem?_toArray, List.getElem?_cons_zero, List.getElem?_cons_succ]) | skip
      have hP7 := hP6.add6 h7 hk7 hg7
      rw [← encP_succ] at hP7
      have hl7 := hP7.pc.rd.len
      (refine W_at c3_ok ?_; refine ⟨_, rfl, ?_⟩; simp (disch := first | omega | assumption | rfl | (simp only [vcS] <;> omega) | fail) only [↓ptV_l, ↓vcA, vcB, ↓vcD, vcE, ↓reduceIte, Nat.reduceEqDiff, Nat.reduceAdd, Nat.reduceMul, Nat.reduceLeDiff, Int.reduceLE, Int.reduceLT, Int.reduceEq, Int.reduceToNat, Int.reduceAdd, Int.reduceSub, Int.reduceMul, Int.reduceNeg, reduceCtorEq, Option.bind_some, Option.map_some, List.length_cons, List.length_nil, vcM, List.getElem?_toArray, List.getElem?_cons_zero, List.getElem?_cons_succ, hl7])
      refine bytewise Q _ _ hpb.1 hE.1 (by omega) i ?_ (pieceF ps ns i).length 0 w7 _ wv7 _ (by omega) (by rw [List.take_zero, List.append_nil]; exact hP7)
      intro wd ownd wv7' tl' hPd
      rw [← encP_succ] at hPd
      have wi : IntKind.i64.wrap ((i : Int) + 1) = ((i + 1 : Nat) : Int) := wrap_i64 (by omega) (by omega)
      (refine W_at c3_ok ?_; refine ⟨_, rfl, ?_⟩; simp (disch := first | omega | assumption | rfl | (simp only [vcS] <;> omega) | fail) only [↓ptV_l, ↓vcA, vcB, ↓vcD, vcE, ↓reduceIte, Nat.reduceEqDiff, Nat.reduceAdd, Nat.reduceMul, Nat.reduceLeDiff, Int.reduceLE, Int.reduceLT, Int.reduceEq, Int.reduceToNat, Int.reduceAdd, Int.reduceSub, Int.reduceMul, Int.reduceNeg, reduceCtorEq, Option.bind_some, Option.map_some, List.length_cons, List.length_nil, vcM, List.getElem?_toArray, List.getElem?_cons_zero, List.getElem?_cons_succ, wi])
      (refine W_at c3_ok ?_; refine ⟨_, rfl, ?_⟩; simp (disch := first | omega | assumption | rfl | (simp only [vcS] <;> omega) | fail) only [↓ptV_l, ↓vcA, vcB, ↓vcD, vcE, ↓reduceIte, Nat.reduceEqDiff, Nat.reduceAdd, Nat.reduceMul, Nat.reduceLeDiff, Int.reduceLE, Int.reduceLT, Int.reduceEq, Int.reduceToNat, Int.reduceAdd, Int.reduceSub, Int.reduceMul, Int.reduceNeg, reduceCtorEq, Option.bind_some, Option.map_some, List.length_cons, List.length_nil, vcM, List.getElem?_toArray, List.getElem?_cons_zero, List.getElem?_cons_succ])
      exact ih (i + 1) wd ownd v5b wv6' wv7' v6' v5' _ _ (by omega) hPd
    have nums : ∀ y tl, Rd w y (cutP ps i) → W Try.prog Q 3 38 ((0, .slice (some ⟨b, o, none⟩) ps.length c) :: (1, numbers) :: (5, .pointer (some ⟨p5, 0, none⟩)) :: (6, .pointer (some ⟨s6, 0, none⟩)) :: (7, .pointer (some ⟨s7, 0, none⟩)) :: (8, v8) :: (9, .int .i64 (i : Nat)) :: (10, y) :: tl) wj := by
      intro y tl hy
      have wu : IntKind.u64.wrap (i : Int) = (i : Nat) := by rw [wrap_u64]; omega
      by_cases h0 : ns.length = 0
      · have hn0 : ¬ (0 : Int) < (ns.length : Nat) := by omega
        have e0 : numP ns i = (i : Nat) := by unfold numP; rw [if_pos h0]
        rw [e0] at rest
        (refine W_at c3_ok ?_; refine ⟨_, rfl, ?_⟩; simp (disch := first | omega | assumption | rfl | (simp only [vcS] <;> omega) | fail) only [↓ptV_l, ↓vcA, vcB, ↓vcD, vcE, ↓reduceIte, Nat.reduceEqDiff, Nat.reduceAdd, Nat.reduceMul, Nat.reduceLeDiff, Int.reduceLE, Int.reduceLT, Int.reduceEq, Int.reduceToNat, Int.reduceAdd, Int.reduceSub, Int.reduceMul, Int.reduceNeg, reduceCtorEq, Option.bind_some, Option.map_some, List.length_cons, List.length_nil, vcM, List.getElem?_toArray, List.getElem?_cons_zero, List.getElem?_cons_succ, wu])
        (refine W_at c3_ok ?_; refine ⟨_, rfl, ?_⟩; simp (disch := first | omega | assumption | rfl | (simp only [vcS] <;> omega) | fail) only [↓ptV_l, ↓vcA, vcB, ↓vcD, vcE, ↓reduceIte, Nat.reduceEqDiff, Nat.reduceAdd, Nat.reduceMul, Nat.reduceLeDiff, Int.reduceLE, Int.reduceLT, Int.reduceEq, Int.reduceToNat, Int.reduceAdd, Int.reduceSub, Int.reduceMul, Int.reduceNeg, reduceCtorEq, Option.bind_some, Option.map_some, List.length_cons, List.length_nil, vcM, List.getElem?_toArray, List.getElem?_cons_zero, List.getElem?_cons_succ, hlenN, hn0])
        (refine W_at c3_ok ?_; refine ⟨_, rfl, ?_⟩; simp (disch := first | omega | assumption | rfl | (simp only [vcS] <;> omega) | fail) only [↓ptV_l, ↓vcA, vcB, ↓vcD, vcE, ↓reduceIte, Nat.reduceEqDiff, Nat.reduceAdd, Nat.reduceMul, Nat.reduceLeDiff, Int.reduceLE, Int.reduceLT, Int.reduceEq, Int.reduceToNat, Int.reduceAdd, Int.reduceSub, Int.reduceMul, Int.reduceNeg, reduceCtorEq, Option.bind_some, Option.map_some, List.length_cons, List.length_nil, vcM, List.getElem?_toArray, List.getElem?_cons_zero, List.getElem?_cons_succ])
        exact rest y _ hy
      · have hn0 : (0 : Int) < (ns.length : Nat) := by omega
        have hm := Nat.mod_lt i (Nat.pos_of_ne_zero h0)
        have e0 : numP ns i = ns[i % ns.length] := by unfold numP; rw [if_neg h0, List.getD_eq_getElem?_getD, List.getElem?_eq_getElem hm]; rfl
        obtain ⟨b', o', c', rfl, hcn⟩ := hns.at' (i % ns.length) hm
        replace hcn := cell_ext hcn hP.ext
        rw [← e0] at hcn
        (refine W_at c3_ok ?_; refine ⟨_, rfl, ?_⟩; simp (disch := first | omega | assumption | rfl | (simp only [vcS] <;> omega) | fail) only [↓ptV_l, ↓vcA, vcB, ↓vcD, vcE, ↓reduceIte, Nat.reduceEqDiff, Nat.reduceAdd, Nat.reduceMul, Nat.reduceLeDiff, Int.reduceLE, Int.reduceLT, Int.reduceEq, Int.reduceToNat, Int.reduceAdd, Int.reduceSub, Int.reduceMul, Int.reduceNeg, reduceCtorEq, Option.bind_some, Option.map_some, List.length_cons, List.length_nil, vcM, List.getElem?_toArray, List.getElem?_cons_zero, List.getElem?_cons_succ, wu])
        (refine W_at c3_ok ?_; refine ⟨_, rfl, ?_⟩; simp (disch := first | omega | assumption | rfl | (simp only [vcS] <;> omega) | fail) only [↓ptV_l, ↓vcA, vcB, ↓vcD, vcE, ↓reduceIte, Nat.reduceEqDiff, Nat.reduceAdd, Nat.reduceMul, Nat.reduceLeDiff, Int.reduceLE, Int.reduceLT, Int.reduceEq, Int.reduceToNat, Int.reduceAdd, Int.reduceSub, Int.reduceMul, Int.reduceNeg, reduceCtorEq, Option.bind_some, Option.map_some, List.length_cons, List.length_nil, vcM, List.getElem?_toArray, List.getElem?_cons_zero, List.getElem?_cons_succ, hlenN, hn0])
        (refine W_at c3_ok ?_; refine ⟨_, rfl, ?_⟩; simp (disch := first | omega | assumption | rfl | (simp only [vcS] <;> omega) | fail) only [↓ptV_l, ↓vcA, vcB, ↓vcD, vcE, ↓reduceIte, Nat.reduceEqDiff, Nat.reduceAdd, Nat.reduceMul, Nat.reduceLeDiff, Int.reduceLE, Int.reduceLT, Int.reduceEq, Int.reduceToNat, Int.reduceAdd, Int.reduceSub, Int.reduceMul, Int.reduceNeg, reduceCtorEq, Option.bind_some, Option.map_some, List.length_cons, List.length_nil, vcM, List.getElem?_toArray, List.getElem?_cons_zero, List.getElem?_cons_succ])
        have hz : ¬ ((ns.length : Nat) : Int) = 0 := by omega
        have ht : Int.tmod (i : Int) (ns.length : Nat) = ((i % ns.length : Nat) : Int) := by rw [Int.tmod_eq_emod_of_nonneg (by omega)]; rfl
        have c4 : 0 ≤ ((i % ns.length : Nat) : Int) ∧ ((i % ns.length : Nat) : Int) < (ns.length : Nat) := by omega
        have wm : IntKind.i64.wrap ((i % ns.length : Nat) : Int) = ((i % ns.length : Nat) : Int) := wrap_i64 (by omega) (by have := hns.mx; have e : maxLen = 9223372036854775807 := rfl; omega)
        (refine W_at c3_ok ?_; refine ⟨_, rfl, ?_⟩; simp (disch := first | omega | assumption | rfl | (simp only [vcS] <;> omega) | fail) only [↓ptV_l, ↓vcA, vcB, ↓vcD, vcE, ↓reduceIte, Nat.reduceEqDiff, Nat.reduceAdd, Nat.reduceMul, Nat.reduceLeDiff, Int.reduceLE, Int.reduceLT, Int.reduceEq, Int.reduceToNat, Int.reduceAdd, Int.reduceSub, Int.reduceMul, Int.reduceNeg, reduceCtorEq, Option.bind_some, Option.map_some, List.length_cons, List.length_nil, vcM, List.getElem?_toArray, List.getElem?_cons_zero, List.getElem?_cons_succ, hlenN, hz, ht, wm, c4, Int.toNat_natCast, Nat.mul_one, hcn])

        exact rest y _ hy
    by_cases hg : 400 < (ps[i].length : Int)
    · obtain ⟨q, cx, rfl, hcx⟩ := hx.is
      have hct := hx.cut (l := 0) (j := 400) (by omega) (by omega)
      rw [List.drop_zero, ← hcp, advA_0] at hct
      have k1 : (0 : Int) ≤ 400 ∧ (400 : Int) ≤ (cx : Nat) := by omega
      (refine W_at c3_ok ?_; refine ⟨_, rfl, ?_⟩; simp (disch := first | omega | assumption | rfl | (simp only [vcS] <;> omega) | fail) only [↓ptV_l, ↓vcA, vcB, ↓vcD, vcE, ↓reduceIte, Nat.reduceEqDiff, Nat.reduceAdd, Nat.reduceMul, Nat.reduceLeDiff, Int.reduceLE, Int.reduceLT, Int.reduceEq, Int.reduceToNat, Int.reduceAdd, Int.reduceSub, Int.reduceMul, Int.reduceNeg, reduceCtorEq, Option.bind_some, Option.map_some, List.length_cons, List.length_nil, vcM, List.getElem?_toArray, List.getElem?_cons_zero, List.getElem?_cons_succ, hg])
      (refine W_at c3_ok ?_; refine ⟨_, rfl, ?_⟩; simp (disch := first | omega | assumption | rfl | (simp only [vcS] <;> omega) | fail) only [↓ptV_l, ↓vcA, vcB, ↓vcD, vcE, ↓reduceIte, Nat.reduceEqDiff, Nat.reduceAdd, Nat.reduceMul, Nat.reduceLeDiff, Int.reduceLE, Int.reduceLT, Int.reduceEq, Int.reduceToNat, Int.reduceAdd, Int.reduceSub, Int.reduceMul, Int.reduceNeg, reduceCtorEq, Option.bind_some, Option.map_some, List.length_cons, List.length_nil, vcM, List.getElem?_toArray, List.getElem?_cons_zero, List.getElem?_cons_succ, k1])

      exact nums _ _ hct
    · have e4 : cutP ps i = ps[i] := by rw [hcp, List.take_of_length_le (by omega)]
      rw [← e4] at hx
      (refine W_at c3_ok ?_; refine ⟨_, rfl, ?_⟩; simp (disch := first | omega | assumption | rfl | (simp only [vcS] <;> omega) | fail) only [↓ptV_l, ↓vcA, vcB, ↓vcD, vcE, ↓reduceIte, Nat.reduceEqDiff, Nat.reduceAdd, Nat.reduceMul, Nat.reduceLeDiff, Int.reduceLE, Int.reduceLT, Int.reduceEq, Int.reduceToNat, Int.reduceAdd, Int.reduceSub, Int.reduceMul, Int.reduceNeg, reduceCtorEq, Option.bind_some, Option.map_some, List.length_cons, List.length_nil, vcM, List.getElem?_toArray, List.getElem?_cons_zero, List.getElem?_cons_succ, hg])
      exact nums x _ hx
end Go.Proofs
