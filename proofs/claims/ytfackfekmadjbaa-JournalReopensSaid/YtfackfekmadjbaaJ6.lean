/- A journal's 'frame', 'lay', 'safe', 'mark'. -/
import Derived.Test.YtfackfekmadjbaaJ4
import Derived.Test.YtfackfekmadjbaaJ5
set_option linter.unusedSimpArgs false
set_option linter.unusedVariables false
set_option linter.constructorNameAsVariable false
namespace Go.Proofs
open Go.Vc
set_option maxRecDepth 10000

theorem Rd.full {w : World} {q : Option Addr} {n c : Nat} {bs : List Int} (h : Rd w (.slice q n c) bs) {k : Nat} (hk : k ≤ n) : Rd w (.slice q k k) (bs.take k) := by
  have h2 := h.cut (l := 0) (j := k) (Nat.zero_le _) hk
  rw [advA_0, Nat.sub_zero, Nat.sub_zero, List.drop_zero] at h2
  obtain ⟨_, hm, hr⟩ := h2
  obtain ⟨⟨_, _, e, _⟩, _, _⟩ := h
  injection e with _ e2 _
  have hl : (bs.take k).length = k := by rw [List.length_take]; omega
  exact ⟨⟨q, k, by rw [hl], by rw [hl]; exact Nat.le_refl _⟩, hm, hr⟩
/-- 'append' onto bytes that fill what they lie in. -/
theorem appCut {w : World} {q : Option Addr} {k : Nat} {x : Value} {bs news : List Int} {K : Value → World → Prop} (h : Rd w (.slice q k k) bs) (hx : Rd w x news) (h0 : 0 < news.length) (hlen : bs.length + news.length ≤ 1000000000)
    (hk : ∀ v' w', New w w' v' (bs ++ news) → K v' w') : appV 5 1 1 [.int .u8 0] (.slice q k k) x w K := by
  obtain ⟨⟨_, _, e, _⟩, _, hr⟩ := h
  injection e with e1 e2 e3
  obtain ⟨⟨q2, c2, rfl, hc2⟩, _, hr2⟩ := hx
  have hml : maxLen = 9223372036854775807 := rfl
  unfold appV
  simp only [hr, hr2, getV_some]
  refine ⟨bv_flat _, by omega, by omega, rfl, fun hc => by omega, fun hc => by omega, fun _ c' hc1 hc2 => ?_⟩
  subst e2
  refine hk _ _ ⟨⟨by rw [bv_len, Nat.mul_one], .inr ⟨_, c', _, by rw [List.length_append]; rfl, Nat.zero_le _, heap_alloc_new w.drew _, by rw [List.length_append]; exact hc1, hc2, ?_, ?_⟩⟩, (Keep.refl _ w).drew.alloc _, fun g hg => ?_⟩
  · simp [bv, zrep]; omega
  · simp only [List.toList_toArray, List.length_append, Nat.mul_one]
    rw [bv_app, List.take_append_of_le_length (by simp [bv])]
    exact List.take_of_length_le (by simp [bv])
  · have e := Option.some.inj hg
    have : w.heap.size = g := e
    omega
theorem ByT.cut {w : World} {q : Option Addr} {n c : Nat} {bs : List Int} (h : ByT w (.slice q n c) bs) {l j : Nat} (hl : l ≤ j) (hj : j ≤ n) : ByT w (.slice (advA 1 q c l) (j - l) (c - l)) ((bs.take j).drop l) := by
  refine ⟨h.1.cut hl hj, fun g hg => h.2 g ?_⟩
  cases ha : advA 1 q c l with
  | none => rw [ha] at hg; cases hg
  | some a =>
    rw [ha] at hg
    obtain ⟨a', e, hb⟩ := advA_blk ha
    have hg2 : some a.block = some g := hg
    show (Value.slice q n c).ownBlock = some g
    rw [e, ← hg2, hb]
    rfl
theorem DAt.nobT {w : World} {p r : Nat} {qv x : Value} {d : DS} {bs : List Int} (hd : DAt w p r qv d) (h : ByT w x bs) : ∀ q n c, x = .slice (some q) n c → ¬ DB p r qv q.block := fun q n c e => by
  obtain ⟨c, hc⟩ := h.2 q.block (by rw [e]; rfl)
  exact hd.nob hc (by decide) (by decide)

/-- A writer of one's own. -/
structure Wn (w0 w : World) (p : Nat) (v : Value) (bs : List Int) : Prop where
  ext : Ext w0 w
  at' : WAt w p v bs
  pl : w0.heap.size ≤ p
  bl : ∀ g, blk v g → w0.heap.size ≤ g
theorem Wn.go {w0 w w1 : World} {p : Nat} {v : Value} {bs bs' : List Int} (h : Wn w0 w p v bs) (hT : WTo w w1 p v bs') : ∃ v', Wn w0 w1 p v' bs' := by
  obtain ⟨⟨v', h1, h2⟩, hk⟩ := hT
  refine ⟨v', h.ext.trans hk fun i hi hs => ?_, h1, h.pl, fun g hg => ?_⟩
  · have := h.pl
    rcases hs with rfl | hs
    · omega
    · have := h.bl i hs; omega
  · rcases h2 g hg with h3 | h3
    · exact h.bl g h3
    · exact Nat.le_trans h.ext.size h3
theorem frame_ok (w : World) (m : Int) (x : Value) (b : List Int) (hx : Rd w x b) (hm : 0 ≤ m ∧ m ≤ 255) (hl : b.length ≤ 2000000) :
    Calls Try.prog 32 #[.int .u8 m, x] w (Ret fun u w' => New w w' u (m :: (tail1 b ++ [0]))) := by
  refine calls_of_cfg c32_ok (Nat.le_of_ble_eq_true rfl) ?_
  simp only [argE_nil, argE_cons, Nat.reduceAdd, Nat.zero_add]
  have hlen := hx.len
  have hw3 : IntKind.u32.wrap ((b.length : Nat) : Int) = ((b.length : Nat) : Int) := by rw [wrap_u32]; omega
  (refine W_at c32_ok ?_; refine ⟨_, rfl, ?_⟩; simp (disch := first | omega | assumption | rfl | (simp only [vcS] <;> omega) | fail) only [↓ptV_l, ↓vcA, vcB, ↓vcD, vcE, ↓reduceIte, Nat.reduceEqDiff, Nat.reduceAdd, Nat.reduceMul, Nat.reduceLeDiff, Int.reduceLE, Int.reduceLT, Int.reduceEq, Int.reduceToNat, Int.reduceAdd, Int.reduceSub, Int.reduceMul, Int.reduceNeg, reduceCtorEq, Option.bind_some, Option.map_some, List.length_cons, List.length_nil, vcM, List.getElem?_toArray, List.getElem?_cons_zero, List.getElem?_cons_succ])
  (refine W_at c32_ok ?_; refine ⟨_, rfl, ?_⟩; simp (disch := first | omega | assumption | rfl | (simp only [vcS] <;> omega) | fail) only [↓ptV_l, ↓vcA, vcB, ↓vcD, vcE, ↓reduceIte, Nat.reduceEqDiff, Nat.reduceAdd, Nat.reduceMul, Nat.reduceLeDiff, Int.reduceLE, Int.reduceLT, Int.reduceEq, Int.reduceToNat, Int.reduceAdd, Int.reduceSub, Int.reduceMul, Int.reduceNeg, reduceCtorEq, Option.bind_some, Option.map_some, List.length_cons, List.length_nil, vcM, List.getElem?_toArray, List.getElem?_cons_zero, List.getElem?_cons_succ])
  have h0 : Wn w (w.alloc (.cells (zc [(1, .slice none 0 0)]) 89)) w.heap.size (.slice none 0 0) [] := ⟨(Keep.refl _ w).alloc _, ⟨heap_new _ _ _ rfl, Own1.nil _⟩, Nat.le_refl _, fun g h => by cases h⟩
  generalize World.alloc _ _ = w1 at h0 ⊢
  generalize hp : w.heap.size = p at h0 ⊢
  (refine W_at c32_ok ?_; refine ⟨_, rfl, ?_⟩; simp (disch := first | omega | assumption | rfl | (simp only [vcS] <;> omega) | fail) only [↓ptV_l, ↓vcA, vcB, ↓vcD, vcE, ↓reduceIte, Nat.reduceEqDiff, Nat.reduceAdd, Nat.reduceMul, Nat.reduceLeDiff, Int.reduceLE, Int.reduceLT, Int.reduceEq, Int.reduceToNat, Int.reduceAdd, Int.reduceSub, Int.reduceMul, Int.reduceNeg, reduceCtorEq, Option.bind_some, Option.map_some, List.length_cons, List.length_nil, vcM, List.getElem?_toArray, List.getElem?_cons_zero, List.getElem?_cons_succ])
  refine callV_ret (u8_ok w1 p _ [] m h0.at' (by simp) hm) ?_
  intro _ w2 hT
  obtain ⟨v2, h2⟩ := h0.go hT
  have hl2 := lowF_len 1 m
  first | (simp (disch := first | omega | assumption | rfl | (simp only [vcS] <;> omega) | fail) only [↓ptV_l, ↓vcA, vcB, ↓vcD, vcE, ↓reduceIte, Nat.reduceEqDiff, Nat.reduceAdd, Nat.reduceMul, Nat.reduceLeDiff, Int.reduceLE, Int.reduceLT, Int.reduceEq, Int.reduceToNat, Int.reduceAdd, Int.reduceSub, Int.reduceMul, Int.reduceNeg, reduceCtorEq, Option.bind_some, Option.map_some, List.length_cons, List.length_nil, vcM, List.getElem?_toArray, List.getElem?_cons_zero, List.getElem?_cons_succ]) | skip
  (refine W_at c32_ok ?_; refine ⟨_, rfl, ?_⟩; simp (disch := first | omega | assumption | rfl | (simp only [vcS] <;> omega) | fail) only [↓ptV_l, ↓vcA, vcB, ↓vcD, vcE, ↓reduceIte, Nat.reduceEqDiff, Nat.reduceAdd, Nat.reduceMul, Nat.reduceLeDiff, Int.reduceLE, Int.reduceLT, Int.reduceEq, Int.reduceToNat, Int.reduceAdd, Int.reduceSub, Int.reduceMul, Int.reduceNeg, reduceCtorEq, Option.bind_some, Option.map_some, List.length_cons, List.length_nil, vcM, List.getElem?_toArray, List.getElem?_cons_zero, List.getElem?_cons_succ, hlen, hw3])
  refine callV_ret (u32_ok w2 p _ _ ((b.length : Nat) : Int) h2.at' (by simp; omega) (by omega)) ?_
  intro _ w3 hT
  obtain ⟨v3, h3⟩ := h2.go hT
  have hl3 := lowF_len 4 ((b.length : Nat) : Int)
  first | (simp (disch := first | omega | assumption | rfl | (simp only [vcS] <;> omega) | fail) only [↓ptV_l, ↓vcA, vcB, ↓vcD, vcE, ↓reduceIte, Nat.reduceEqDiff, Nat.reduceAdd, Nat.reduceMul, Nat.reduceLeDiff, Int.reduceLE, Int.reduceLT, Int.reduceEq, Int.reduceToNat, Int.reduceAdd, Int.reduceSub, Int.reduceMul, Int.reduceNeg, reduceCtorEq, Option.bind_some, Option.map_some, List.length_cons, List.length_nil, vcM, List.getElem?_toArray, List.getElem?_cons_zero, List.getElem?_cons_succ]) | skip
  (refine W_at c32_ok ?_; refine ⟨_, rfl, ?_⟩; simp (disch := first | omega | assumption | rfl | (simp only [vcS] <;> omega) | fail) only [↓ptV_l, ↓vcA, vcB, ↓vcD, vcE, ↓reduceIte, Nat.reduceEqDiff, Nat.reduceAdd, Nat.reduceMul, Nat.reduceLeDiff, Int.reduceLE, Int.reduceLT, Int.reduceEq, Int.reduceToNat, Int.reduceAdd, Int.reduceSub, Int.reduceMul, Int.reduceNeg, reduceCtorEq, Option.bind_some, Option.map_some, List.length_cons, List.length_nil, vcM, List.getElem?_toArray, List.getElem?_cons_zero, List.getElem?_cons_succ])
  refine callV_ret (raw_ok w3 p _ _ x b h3.at' (hx.ext h3.ext) (by simp; omega)) ?_
  intro _ w4 hT
  obtain ⟨v4, h4⟩ := h3.go hT
  first | (simp (disch := first | omega | assumption | rfl | (simp only [vcS] <;> omega) | fail) only [↓ptV_l, ↓vcA, vcB, ↓vcD, vcE, ↓reduceIte, Nat.reduceEqDiff, Nat.reduceAdd, Nat.reduceMul, Nat.reduceLeDiff, Int.reduceLE, Int.reduceLT, Int.reduceEq, Int.reduceToNat, Int.reduceAdd, Int.reduceSub, Int.reduceMul, Int.reduceNeg, reduceCtorEq, Option.bind_some, Option.map_some, List.length_cons, List.length_nil, vcM, List.getElem?_toArray, List.getElem?_cons_zero, List.getElem?_cons_succ]) | skip
  (refine W_at c32_ok ?_; refine ⟨_, rfl, ?_⟩; simp (disch := first | omega | assumption | rfl | (simp only [vcS] <;> omega) | fail) only [↓ptV_l, ↓vcA, vcB, ↓vcD, vcE, ↓reduceIte, Nat.reduceEqDiff, Nat.reduceAdd, Nat.reduceMul, Nat.reduceLeDiff, Int.reduceLE, Int.reduceLT, Int.reduceEq, Int.reduceToNat, Int.reduceAdd, Int.reduceSub, Int.reduceMul, Int.reduceNeg, reduceCtorEq, Option.bind_some, Option.map_some, List.length_cons, List.length_nil, vcM, List.getElem?_toArray, List.getElem?_cons_zero, List.getElem?_cons_succ])
  refine callV_ret (u8_ok w4 p _ _ 0 h4.at' (by simp; omega) (by omega)) ?_
  intro _ w5 hT
  obtain ⟨v5, h5⟩ := h4.go hT
  first | (simp (disch := first | omega | assumption | rfl | (simp only [vcS] <;> omega) | fail) only [↓ptV_l, ↓vcA, vcB, ↓vcD, vcE, ↓reduceIte, Nat.reduceEqDiff, Nat.reduceAdd, Nat.reduceMul, Nat.reduceLeDiff, Int.reduceLE, Int.reduceLT, Int.reduceEq, Int.reduceToNat, Int.reduceAdd, Int.reduceSub, Int.reduceMul, Int.reduceNeg, reduceCtorEq, Option.bind_some, Option.map_some, List.length_cons, List.length_nil, vcM, List.getElem?_toArray, List.getElem?_cons_zero, List.getElem?_cons_succ]) | skip
  (refine W_at c32_ok ?_; refine ⟨_, rfl, ?_⟩; simp (disch := first | omega | assumption | rfl | (simp only [vcS] <;> omega) | fail) only [↓ptV_l, ↓vcA, vcB, ↓vcD, vcE, ↓reduceIte, Nat.reduceEqDiff, Nat.reduceAdd, Nat.reduceMul, Nat.reduceLeDiff, Int.reduceLE, Int.reduceLT, Int.reduceEq, Int.reduceToNat, Int.reduceAdd, Int.reduceSub, Int.reduceMul, Int.reduceNeg, reduceCtorEq, Option.bind_some, Option.map_some, List.length_cons, List.length_nil, vcM, List.getElem?_toArray, List.getElem?_cons_zero, List.getElem?_cons_succ])
  refine callV_ret (out_ok w5 p _ _ h5.at' (by simp [lowF_len]; omega)) ?_
  rintro u w6 ⟨h6, h7, h8⟩
  first | (simp (disch := first | omega | assumption | rfl | (simp only [vcS] <;> omega) | fail) only [↓ptV_l, ↓vcA, vcB, ↓vcD, vcE, ↓reduceIte, Nat.reduceEqDiff, Nat.reduceAdd, Nat.reduceMul, Nat.reduceLeDiff, Int.reduceLE, Int.reduceLT, Int.reduceEq, Int.reduceToNat, Int.reduceAdd, Int.reduceSub, Int.reduceMul, Int.reduceNeg, reduceCtorEq, Option.bind_some, Option.map_some, List.length_cons, List.length_nil, vcM, List.getElem?_toArray, List.getElem?_cons_zero, List.getElem?_cons_succ]) | skip
  (refine W_at c32_ok ?_; refine ⟨_, rfl, ?_⟩; simp (disch := first | omega | assumption | rfl | (simp only [vcS] <;> omega) | fail) only [↓ptV_l, ↓vcA, vcB, ↓vcD, vcE, ↓reduceIte, Nat.reduceEqDiff, Nat.reduceAdd, Nat.reduceMul, Nat.reduceLeDiff, Int.reduceLE, Int.reduceLT, Int.reduceEq, Int.reduceToNat, Int.reduceAdd, Int.reduceSub, Int.reduceMul, Int.reduceNeg, reduceCtorEq, Option.bind_some, Option.map_some, List.length_cons, List.length_nil, vcM, List.getElem?_toArray, List.getElem?_cons_zero, List.getElem?_cons_succ, Ret_returned])
  have e : [] ++ lowF 1 m ++ lowF 4 ((b.length : Nat) : Int) ++ b ++ lowF 1 0 = m :: (tail1 b ++ [0]) := by
    have e1 : lowF 1 m = [m] := by
      show [m % 256] = [m]
      rw [Int.emod_eq_of_lt (by omega) (by omega)]
    have e2 : lowF 1 0 = [0] := rfl
    rw [e1, e2, tail1]
    simp
  rw [e] at h6
  exact ⟨h6, h5.ext.ext h7, fun g hg => Nat.le_trans h5.ext.size (h8 g hg)⟩

theorem read_q {d : DS} {i : Int} (hq : d.queue = []) (hde : d.dead = false) (ht : thereB d.n i = true) : readE d i = 0 ∧ readB d i = d.safe i := by
  have e : readE d i = 0 := by unfold readE; rw [if_pos ht, hde]; rfl
  refine ⟨e, ?_⟩
  unfold readB
  rw [if_pos e]
  exact read_none (by rw [hq]; intro y hy; cases hy)
theorem DTo.trans {w w1 w2 : World} {p r : Nat} {qv qv1 : Value} {d2 : DS} (k : Keep (DB p r qv) w w1) (hq : ∀ g, blk qv1 g → blk qv g ∨ w.heap.size ≤ g) (h : DTo w1 w2 p r qv1 d2) : DTo w w2 p r qv d2 := by
  obtain ⟨qv2, hd, hk, hb⟩ := h
  refine ⟨qv2, hd, k.trans hk fun i hi hS => ?_, fun g hg => ?_⟩
  · rcases hS with h | h | h
    · exact .inl h
    · exact .inr (.inl h)
    · rcases hq i h with h | h
      · exact .inr (.inr h)
      · exact absurd hi (by omega)
  · rcases hb g hg with h | h
    · exact hq g h
    · exact .inr (Nat.le_trans k.size h)
theorem slc3_cut {q : Option Addr} {n c k : Nat} (hk : k ≤ n) (hc : n ≤ c) : slc3R 1 none (.int .i64 ((k : Nat) : Int)) (.int .i64 ((k : Nat) : Int)) (.slice q n c) = some (.slice q k k) := by
  unfold slc3R
  simp only [Int.toNat_natCast]
  rw [if_pos (by omega)]
theorem base_le {n : Nat} (h : Int) : baseN n h + secs n ≤ n + 1 := by
  unfold baseN
  have : (h % 2).toNat ≤ 1 := by omega
  have := Nat.mul_le_mul_right (secs n) this
  unfold secs at this ⊢
  omega
theorem base_lt {n : Nat} (h : Int) (hn : 1 ≤ n) : baseN n h + secs n ≤ n := by
  unfold baseN
  have : (h % 2).toNat ≤ 1 := by omega
  have := Nat.mul_le_mul_right (secs n) this
  unfold secs at this ⊢
  omega
def ahead (d : DS) (hd : Int) (pos : Nat) : List Int := (d.safe ((baseN d.n hd + pos / 64 : Nat) : Int)).take (pos % 64)
def LayQ (d : DS) (hd : Int) (pos : Nat) (bs : List Int) : List Wr := plan (baseN d.n hd + pos / 64) (ahead d hd pos ++ bs)
set_option maxHeartbeats 1600000 in
theorem lay_ok (w : World) (jp p r : Nat) (sv rv qv : Value) (J : JS) (d : DS) (hd : Int) (pos : Nat) (x : Value) (bs : List Int) (h : JAt w jp p sv rv J) (hD : DAt w p r qv d) (hk : d.Ok) (hn : 16 ≤ d.n) (hde : d.dead = false) (hq : d.queue = [])
    (hh : 0 ≤ hd ∧ hd ≤ 255) (hx : Rd w x bs) (hb : byt bs) (hb0 : 0 < bs.length) (hroom : pos + bs.length ≤ 64 * secs d.n) :
    Calls Try.prog 50 #[.pointer (some ⟨jp, 0, none⟩), .int .u8 hd, .int .i64 (pos : Nat), x] w (Ret fun u w' => ∃ d' e, u = .int .i64 e ∧ DTo w w' p r qv d' ∧ Runs d d' (LayQ d hd pos bs) e) := by
  refine calls_of_cfg c50_ok (Nat.le_of_ble_eq_true rfl) ?_
  simp only [argE_nil, argE_cons, Nat.reduceAdd, Nat.zero_add]
  have ho := h.obj
  have hs := secs_b hk.n
  have hbl := base_lt (n := d.n) hd (by omega)
  have hbb := base_b (h := hd) hk.n
  have hdv : IntKind.i64.wrap (Int.tdiv ((pos : Nat) : Int) 64) = ((pos / 64 : Nat) : Int) := by
    rw [Int.tdiv_eq_ediv_of_nonneg (by omega), wrap_i64 (by omega) (by omega)]; omega
  have hmd : Int.tmod ((pos : Nat) : Int) 64 = ((pos % 64 : Nat) : Int) := by
    rw [Int.tmod_eq_emod_of_nonneg (by omega)]; omega
  have hadd : IntKind.i64.wrap (((baseN d.n hd : Nat) : Int) + ((pos / 64 : Nat) : Int)) = ((baseN d.n hd + pos / 64 : Nat) : Int) := by
    rw [wrap_i64 (by omega) (by omega)]; omega
  have hsl := (hk.safe ((baseN d.n hd + pos / 64 : Nat) : Int)).1
  have hthere : thereB d.n ((baseN d.n hd + pos / 64 : Nat) : Int) = true := thereB_iff.2 (by omega)
  obtain ⟨hre, hrb⟩ := read_q hq hde hthere
  (refine W_at c50_ok ?_; refine ⟨_, rfl, ?_⟩; simp (disch := first | omega | assumption | rfl | (simp only [vcS] <;> omega) | fail) only [↓ptV_l, ↓vcA, vcB, ↓vcD, vcE, ↓reduceIte, Nat.reduceEqDiff, Nat.reduceAdd, Nat.reduceMul, Nat.reduceLeDiff, Int.reduceLE, Int.reduceLT, Int.reduceEq, Int.reduceToNat, Int.reduceAdd, Int.reduceSub, Int.reduceMul, Int.reduceNeg, reduceCtorEq, Option.bind_some, Option.map_some, List.length_cons, List.length_nil, vcM, List.getElem?_toArray, List.getElem?_cons_zero, List.getElem?_cons_succ])
  (refine W_at c50_ok ?_; refine ⟨_, rfl, ?_⟩; simp (disch := first | omega | assumption | rfl | (simp only [vcS] <;> omega) | fail) only [↓ptV_l, ↓vcA, vcB, ↓vcD, vcE, ↓reduceIte, Nat.reduceEqDiff, Nat.reduceAdd, Nat.reduceMul, Nat.reduceLeDiff, Int.reduceLE, Int.reduceLT, Int.reduceEq, Int.reduceToNat, Int.reduceAdd, Int.reduceSub, Int.reduceMul, Int.reduceNeg, reduceCtorEq, Option.bind_some, Option.map_some, List.length_cons, List.length_nil, vcM, List.getElem?_toArray, List.getElem?_cons_zero, List.getElem?_cons_succ])
  refine callV_ret (baseJ_ok w jp p r sv rv qv J d hd h hD hk hn hh) ?_
  rintro _ w1 ⟨rfl, hw⟩
  obtain rfl : w = w1 := hw.symm
  simp (disch := first | omega | assumption | rfl | (simp only [vcS] <;> omega) | fail) only [↓ptV_l, ↓vcA, vcB, ↓vcD, vcE, ↓reduceIte, Nat.reduceEqDiff, Nat.reduceAdd, Nat.reduceMul, Nat.reduceLeDiff, Int.reduceLE, Int.reduceLT, Int.reduceEq, Int.reduceToNat, Int.reduceAdd, Int.reduceSub, Int.reduceMul, Int.reduceNeg, reduceCtorEq, Option.bind_some, Option.map_some, List.length_cons, List.length_nil, vcM, List.getElem?_toArray, List.getElem?_cons_zero, List.getElem?_cons_succ, hdv, hadd]
  (refine W_at c50_ok ?_; refine ⟨_, rfl, ?_⟩; simp (disch := first | omega | assumption | rfl | (simp only [vcS] <;> omega) | fail) only [↓ptV_l, ↓vcA, vcB, ↓vcD, vcE, ↓reduceIte, Nat.reduceEqDiff, Nat.reduceAdd, Nat.reduceMul, Nat.reduceLeDiff, Int.reduceLE, Int.reduceLT, Int.reduceEq, Int.reduceToNat, Int.reduceAdd, Int.reduceSub, Int.reduceMul, Int.reduceNeg, reduceCtorEq, Option.bind_some, Option.map_some, List.length_cons, List.length_nil, vcM, List.getElem?_toArray, List.getElem?_cons_zero, List.getElem?_cons_succ, ho])
  refine callV_ret (read_ok w p r qv d _ hD hk) ?_
  rintro _ w1 ⟨v, rfl, hN⟩
  rw [hre]
  rw [hrb] at hN
  first | (simp (disch := first | omega | assumption | rfl | (simp only [vcS] <;> omega) | fail) only [↓ptV_l, ↓vcA, vcB, ↓vcD, vcE, ↓reduceIte, Nat.reduceEqDiff, Nat.reduceAdd, Nat.reduceMul, Nat.reduceLeDiff, Int.reduceLE, Int.reduceLT, Int.reduceEq, Int.reduceToNat, Int.reduceAdd, Int.reduceSub, Int.reduceMul, Int.reduceNeg, reduceCtorEq, Option.bind_some, Option.map_some, List.length_cons, List.length_nil, vcM, List.getElem?_toArray, List.getElem?_cons_zero, List.getElem?_cons_succ]) | skip
  (refine W_at c50_ok ?_; refine ⟨_, rfl, ?_⟩; simp (disch := first | omega | assumption | rfl | (simp only [vcS] <;> omega) | fail) only [↓ptV_l, ↓vcA, vcB, ↓vcD, vcE, ↓reduceIte, Nat.reduceEqDiff, Nat.reduceAdd, Nat.reduceMul, Nat.reduceLeDiff, Int.reduceLE, Int.reduceLT, Int.reduceEq, Int.reduceToNat, Int.reduceAdd, Int.reduceSub, Int.reduceMul, Int.reduceNeg, reduceCtorEq, Option.bind_some, Option.map_some, List.length_cons, List.length_nil, vcM, List.getElem?_toArray, List.getElem?_cons_zero, List.getElem?_cons_succ])
  (refine W_at c50_ok ?_; refine ⟨_, rfl, ?_⟩; simp (disch := first | omega | assumption | rfl | (simp only [vcS] <;> omega) | fail) only [↓ptV_l, ↓vcA, vcB, ↓vcD, vcE, ↓reduceIte, Nat.reduceEqDiff, Nat.reduceAdd, Nat.reduceMul, Nat.reduceLeDiff, Int.reduceLE, Int.reduceLT, Int.reduceEq, Int.reduceToNat, Int.reduceAdd, Int.reduceSub, Int.reduceMul, Int.reduceNeg, reduceCtorEq, Option.bind_some, Option.map_some, List.length_cons, List.length_nil, vcM, List.getElem?_toArray, List.getElem?_cons_zero, List.getElem?_cons_succ])
  have hE := hN.ext
  obtain ⟨q, c, hv, hc⟩ := hN.own.rd.is
  rw [hsl] at hv hc
  have hrd0 := hN.own.rd
  rw [hv] at hrd0
  subst hv
  have hpm : pos % 64 ≤ 64 := by omega
  have hs3 := slc3_cut (q := q) (n := 64) (c := c) (k := pos % 64) hpm hc
  have hfull := hrd0.full (k := pos % 64) hpm
  have hfl : ((d.safe ((baseN d.n hd + pos / 64 : Nat) : Int)).take (pos % 64)).length = pos % 64 := by rw [List.length_take]; omega
  (refine W_at c50_ok ?_; refine ⟨_, rfl, ?_⟩; simp (disch := first | omega | assumption | rfl | (simp only [vcS] <;> omega) | fail) only [↓ptV_l, ↓vcA, vcB, ↓vcD, vcE, ↓reduceIte, Nat.reduceEqDiff, Nat.reduceAdd, Nat.reduceMul, Nat.reduceLeDiff, Int.reduceLE, Int.reduceLT, Int.reduceEq, Int.reduceToNat, Int.reduceAdd, Int.reduceSub, Int.reduceMul, Int.reduceNeg, reduceCtorEq, Option.bind_some, Option.map_some, List.length_cons, List.length_nil, vcM, List.getElem?_toArray, List.getElem?_cons_zero, List.getElem?_cons_succ, hmd, hs3])
  refine appCut hfull (hx.ext hE) hb0 (by rw [hfl]; omega) fun vall w2 hN2 => ?_
  first | (simp (disch := first | omega | assumption | rfl | (simp only [vcS] <;> omega) | fail) only [↓ptV_l, ↓vcA, vcB, ↓vcD, vcE, ↓reduceIte, Nat.reduceEqDiff, Nat.reduceAdd, Nat.reduceMul, Nat.reduceLeDiff, Int.reduceLE, Int.reduceLT, Int.reduceEq, Int.reduceToNat, Int.reduceAdd, Int.reduceSub, Int.reduceMul, Int.reduceNeg, reduceCtorEq, Option.bind_some, Option.map_some, List.length_cons, List.length_nil, vcM, List.getElem?_toArray, List.getElem?_cons_zero, List.getElem?_cons_succ]) | skip
  have L : ∀ (k : Nat) (A : List Int) (i : Nat) (w1 : World) (va qv1 : Value) (d1 : DS), A.length ≤ k → ByT w1 va A → JAt w1 jp p sv rv J → DAt w1 p r qv1 d1 → d1.Ok → d1.dead = false → d1.queue.length + (A.length + 63) / 64 < 900000 → 64 * i + A.length ≤ 64 * d1.n → byt A →
      Keep (DB p r qv) w w1 → (∀ g, blk qv1 g → blk qv g ∨ w.heap.size ≤ g) → (∀ d' e, Runs d1 d' (plan i A) e → Runs d d' (LayQ d hd pos bs) e) →
      W Try.prog (Ret fun u w' => ∃ d' e, u = .int .i64 e ∧ DTo w w' p r qv d' ∧ Runs d d' (LayQ d hd pos bs) e) 50 13 [(0, .pointer (some ⟨jp, 0, none⟩)), (9, .int .i64 (i : Nat)), (12, va)] w1 := by
    intro k
    induction k with
    | zero =>
      intro A i w1 va qv1 d1 hA ha hj hd1 hk1 hde1 hq1 hi1 hb1 hK hqb hR
      obtain rfl : A = [] := List.eq_nil_of_length_eq_zero (by omega)
      have hlen := ha.1.len
      (refine W_at c50_ok ?_; refine ⟨_, rfl, ?_⟩; simp (disch := first | omega | assumption | rfl | (simp only [vcS] <;> omega) | fail) only [↓ptV_l, ↓vcA, vcB, ↓vcD, vcE, ↓reduceIte, Nat.reduceEqDiff, Nat.reduceAdd, Nat.reduceMul, Nat.reduceLeDiff, Int.reduceLE, Int.reduceLT, Int.reduceEq, Int.reduceToNat, Int.reduceAdd, Int.reduceSub, Int.reduceMul, Int.reduceNeg, reduceCtorEq, Option.bind_some, Option.map_some, List.length_cons, List.length_nil, vcM, List.getElem?_toArray, List.getElem?_cons_zero, List.getElem?_cons_succ, hlen])
      (refine W_at c50_ok ?_; refine ⟨_, rfl, ?_⟩; simp (disch := first | omega | assumption | rfl | (simp only [vcS] <;> omega) | fail) only [↓ptV_l, ↓vcA, vcB, ↓vcD, vcE, ↓reduceIte, Nat.reduceEqDiff, Nat.reduceAdd, Nat.reduceMul, Nat.reduceLeDiff, Int.reduceLE, Int.reduceLT, Int.reduceEq, Int.reduceToNat, Int.reduceAdd, Int.reduceSub, Int.reduceMul, Int.reduceNeg, reduceCtorEq, Option.bind_some, Option.map_some, List.length_cons, List.length_nil, vcM, List.getElem?_toArray, List.getElem?_cons_zero, List.getElem?_cons_succ])
      (refine W_at c50_ok ?_; refine ⟨_, rfl, ?_⟩; simp (disch := first | omega | assumption | rfl | (simp only [vcS] <;> omega) | fail) only [↓ptV_l, ↓vcA, vcB, ↓vcD, vcE, ↓reduceIte, Nat.reduceEqDiff, Nat.reduceAdd, Nat.reduceMul, Nat.reduceLeDiff, Int.reduceLE, Int.reduceLT, Int.reduceEq, Int.reduceToNat, Int.reduceAdd, Int.reduceSub, Int.reduceMul, Int.reduceNeg, reduceCtorEq, Option.bind_some, Option.map_some, List.length_cons, List.length_nil, vcM, List.getElem?_toArray, List.getElem?_cons_zero, List.getElem?_cons_succ])
      (refine W_at c50_ok ?_; refine ⟨_, rfl, ?_⟩; simp (disch := first | omega | assumption | rfl | (simp only [vcS] <;> omega) | fail) only [↓ptV_l, ↓vcA, vcB, ↓vcD, vcE, ↓reduceIte, Nat.reduceEqDiff, Nat.reduceAdd, Nat.reduceMul, Nat.reduceLeDiff, Int.reduceLE, Int.reduceLT, Int.reduceEq, Int.reduceToNat, Int.reduceAdd, Int.reduceSub, Int.reduceMul, Int.reduceNeg, reduceCtorEq, Option.bind_some, Option.map_some, List.length_cons, List.length_nil, vcM, List.getElem?_toArray, List.getElem?_cons_zero, List.getElem?_cons_succ, Ret_returned])
      exact ⟨_, 0, rfl, ⟨qv1, hd1, hK, hqb⟩, hR _ _ (Runs.nil hk1 hde1)⟩
    | succ k ih =>
      intro A i w1 va qv1 d1 hA ha hj hd1 hk1 hde1 hq1 hi1 hb1 hK hqb hR
      have hlen := ha.1.len
      by_cases h0 : A.length = 0
      · obtain rfl : A = [] := List.eq_nil_of_length_eq_zero h0
        (refine W_at c50_ok ?_; refine ⟨_, rfl, ?_⟩; simp (disch := first | omega | assumption | rfl | (simp only [vcS] <;> omega) | fail) only [↓ptV_l, ↓vcA, vcB, ↓vcD, vcE, ↓reduceIte, Nat.reduceEqDiff, Nat.reduceAdd, Nat.reduceMul, Nat.reduceLeDiff, Int.reduceLE, Int.reduceLT, Int.reduceEq, Int.reduceToNat, Int.reduceAdd, Int.reduceSub, Int.reduceMul, Int.reduceNeg, reduceCtorEq, Option.bind_some, Option.map_some, List.length_cons, List.length_nil, vcM, List.getElem?_toArray, List.getElem?_cons_zero, List.getElem?_cons_succ, hlen])
        (refine W_at c50_ok ?_; refine ⟨_, rfl, ?_⟩; simp (disch := first | omega | assumption | rfl | (simp only [vcS] <;> omega) | fail) only [↓ptV_l, ↓vcA, vcB, ↓vcD, vcE, ↓reduceIte, Nat.reduceEqDiff, Nat.reduceAdd, Nat.reduceMul, Nat.reduceLeDiff, Int.reduceLE, Int.reduceLT, Int.reduceEq, Int.reduceToNat, Int.reduceAdd, Int.reduceSub, Int.reduceMul, Int.reduceNeg, reduceCtorEq, Option.bind_some, Option.map_some, List.length_cons, List.length_nil, vcM, List.getElem?_toArray, List.getElem?_cons_zero, List.getElem?_cons_succ])
        (refine W_at c50_ok ?_; refine ⟨_, rfl, ?_⟩; simp (disch := first | omega | assumption | rfl | (simp only [vcS] <;> omega) | fail) only [↓ptV_l, ↓vcA, vcB, ↓vcD, vcE, ↓reduceIte, Nat.reduceEqDiff, Nat.reduceAdd, Nat.reduceMul, Nat.reduceLeDiff, Int.reduceLE, Int.reduceLT, Int.reduceEq, Int.reduceToNat, Int.reduceAdd, Int.reduceSub, Int.reduceMul, Int.reduceNeg, reduceCtorEq, Option.bind_some, Option.map_some, List.length_cons, List.length_nil, vcM, List.getElem?_toArray, List.getElem?_cons_zero, List.getElem?_cons_succ])
        (refine W_at c50_ok ?_; refine ⟨_, rfl, ?_⟩; simp (disch := first | omega | assumption | rfl | (simp only [vcS] <;> omega) | fail) only [↓ptV_l, ↓vcA, vcB, ↓vcD, vcE, ↓reduceIte, Nat.reduceEqDiff, Nat.reduceAdd, Nat.reduceMul, Nat.reduceLeDiff, Int.reduceLE, Int.reduceLT, Int.reduceEq, Int.reduceToNat, Int.reduceAdd, Int.reduceSub, Int.reduceMul, Int.reduceNeg, reduceCtorEq, Option.bind_some, Option.map_some, List.length_cons, List.length_nil, vcM, List.getElem?_toArray, List.getElem?_cons_zero, List.getElem?_cons_succ, Ret_returned])
        exact ⟨_, 0, rfl, ⟨qv1, hd1, hK, hqb⟩, hR _ _ (Runs.nil hk1 hde1)⟩
      have hgt : ((A.length : Nat) : Int) > 0 := by omega
      have hmin : min ((A.length : Nat) : Int) 64 = ((min A.length 64 : Nat) : Int) := by omega
      obtain ⟨q, c, hv, hc⟩ := ha.1.is
      subst hv
      have ho1 := hj.obj
      have hm1 : min A.length 64 ≤ A.length := Nat.min_le_left _ _
      have b1 : 0 ≤ ((min A.length 64 : Nat) : Int) ∧ ((min A.length 64 : Nat) : Int) ≤ (c : Nat) := by omega
      have b2 : 0 ≤ ((min A.length 64 : Nat) : Int) ∧ ((min A.length 64 : Nat) : Int) ≤ (A.length : Nat) := by omega
      have hcut := ha.cut (l := 0) (j := min A.length 64) (Nat.zero_le _) hm1
      have hcut2 := ha.cut (l := min A.length 64) (j := A.length) hm1 (Nat.le_refl _)
      rw [advA_0, Nat.sub_zero, Nat.sub_zero, List.drop_zero] at hcut
      have et : A.take (min A.length 64) = A.take 64 := by
        rcases Nat.le_total A.length 64 with h | h
        · rw [Nat.min_eq_left h, List.take_length, List.take_of_length_le h]
        · rw [Nat.min_eq_right h]
      have ed : (A.take A.length).drop (min A.length 64) = A.drop 64 := by
        rw [List.take_length]
        rcases Nat.le_total A.length 64 with h | h
        · rw [Nat.min_eq_left h, List.drop_length, List.drop_of_length_le h]
        · rw [Nat.min_eq_right h]
      rw [et] at hcut
      rw [ed] at hcut2
      have hth : thereB d1.n ((i : Nat) : Int) = true := thereB_iff.2 (by omega)
      have hRw := runs_write hk1 hde1 (by omega) hth (bs := A.take 64) (by rw [List.length_take]; omega) (byt_take hb1 64)
      (refine W_at c50_ok ?_; refine ⟨_, rfl, ?_⟩; simp (disch := first | omega | assumption | rfl | (simp only [vcS] <;> omega) | fail) only [↓ptV_l, ↓vcA, vcB, ↓vcD, vcE, ↓reduceIte, Nat.reduceEqDiff, Nat.reduceAdd, Nat.reduceMul, Nat.reduceLeDiff, Int.reduceLE, Int.reduceLT, Int.reduceEq, Int.reduceToNat, Int.reduceAdd, Int.reduceSub, Int.reduceMul, Int.reduceNeg, reduceCtorEq, Option.bind_some, Option.map_some, List.length_cons, List.length_nil, vcM, List.getElem?_toArray, List.getElem?_cons_zero, List.getElem?_cons_succ, hlen, hgt])
      (refine W_at c50_ok ?_; refine ⟨_, rfl, ?_⟩; simp (disch := first | omega | assumption | rfl | (simp only [vcS] <;> omega) | fail) only [↓ptV_l, ↓vcA, vcB, ↓vcD, vcE, ↓reduceIte, Nat.reduceEqDiff, Nat.reduceAdd, Nat.reduceMul, Nat.reduceLeDiff, Int.reduceLE, Int.reduceLT, Int.reduceEq, Int.reduceToNat, Int.reduceAdd, Int.reduceSub, Int.reduceMul, Int.reduceNeg, reduceCtorEq, Option.bind_some, Option.map_some, List.length_cons, List.length_nil, vcM, List.getElem?_toArray, List.getElem?_cons_zero, List.getElem?_cons_succ])
      (refine W_at c50_ok ?_; refine ⟨_, rfl, ?_⟩; simp (disch := first | omega | assumption | rfl | (simp only [vcS] <;> omega) | fail) only [↓ptV_l, ↓vcA, vcB, ↓vcD, vcE, ↓reduceIte, Nat.reduceEqDiff, Nat.reduceAdd, Nat.reduceMul, Nat.reduceLeDiff, Int.reduceLE, Int.reduceLT, Int.reduceEq, Int.reduceToNat, Int.reduceAdd, Int.reduceSub, Int.reduceMul, Int.reduceNeg, reduceCtorEq, Option.bind_some, Option.map_some, List.length_cons, List.length_nil, vcM, List.getElem?_toArray, List.getElem?_cons_zero, List.getElem?_cons_succ, hlen, hmin])
      (refine W_at c50_ok ?_; refine ⟨_, rfl, ?_⟩; simp (disch := first | omega | assumption | rfl | (simp only [vcS] <;> omega) | fail) only [↓ptV_l, ↓vcA, vcB, ↓vcD, vcE, ↓reduceIte, Nat.reduceEqDiff, Nat.reduceAdd, Nat.reduceMul, Nat.reduceLeDiff, Int.reduceLE, Int.reduceLT, Int.reduceEq, Int.reduceToNat, Int.reduceAdd, Int.reduceSub, Int.reduceMul, Int.reduceNeg, reduceCtorEq, Option.bind_some, Option.map_some, List.length_cons, List.length_nil, vcM, List.getElem?_toArray, List.getElem?_cons_zero, List.getElem?_cons_succ, ho1, b1, Int.toNat_natCast, Nat.sub_zero, advA_0])
      have hE1 : Ext w1 w1.drew := (Keep.refl _ w1).drew
      have hd1' := hd1.ext hE1
      have hcut' := hcut.ext hE1
      refine callV_ret (write_ok w1.drew p r qv1 d1 ((i : Nat) : Int) _ (A.take 64) hd1' hk1 (by omega) hcut'.1 (hd1'.nobT hcut') (by rw [List.length_take]; omega)) ?_
      rintro _ w2 ⟨rfl, hT⟩
      have hT' : DTo w1 w2 p r qv1 (writeD d1 ((i : Nat) : Int) (A.take 64)).1 := DTo.after (hE1.mono fun _ h => h.elim) hT
      clear hT
      generalize hwd : writeD d1 ((i : Nat) : Int) (A.take 64) = wd at hRw hT' ⊢
      obtain ⟨d2, e⟩ := wd
      simp only at hRw hT' ⊢
      have hTt := DTo.trans hK hqb hT'
      have hpl : plan i A = (((i : Nat) : Int), padS (A.take 64)) :: plan (i + 1) (A.drop 64) := plan_cons (by intro e; rw [e] at h0; exact h0 rfl)
      first | (simp (disch := first | omega | assumption | rfl | (simp only [vcS] <;> omega) | fail) only [↓ptV_l, ↓vcA, vcB, ↓vcD, vcE, ↓reduceIte, Nat.reduceEqDiff, Nat.reduceAdd, Nat.reduceMul, Nat.reduceLeDiff, Int.reduceLE, Int.reduceLT, Int.reduceEq, Int.reduceToNat, Int.reduceAdd, Int.reduceSub, Int.reduceMul, Int.reduceNeg, reduceCtorEq, Option.bind_some, Option.map_some, List.length_cons, List.length_nil, vcM, List.getElem?_toArray, List.getElem?_cons_zero, List.getElem?_cons_succ]) | skip
      rcases hRw.res with ⟨rfl, hd2, hq2⟩ | ⟨rfl, _, _⟩
      · obtain ⟨qv2, hD2, hk2, hb2⟩ := hT'
        have hln2 := hk1.n
        have hws : IntKind.i64.wrap (((i : Nat) : Int) + 1) = ((i + 1 : Nat) : Int) := wrap_i64 (by omega) (by omega)
        (refine W_at c50_ok ?_; refine ⟨_, rfl, ?_⟩; simp (disch := first | omega | assumption | rfl | (simp only [vcS] <;> omega) | fail) only [↓ptV_l, ↓vcA, vcB, ↓vcD, vcE, ↓reduceIte, Nat.reduceEqDiff, Nat.reduceAdd, Nat.reduceMul, Nat.reduceLeDiff, Int.reduceLE, Int.reduceLT, Int.reduceEq, Int.reduceToNat, Int.reduceAdd, Int.reduceSub, Int.reduceMul, Int.reduceNeg, reduceCtorEq, Option.bind_some, Option.map_some, List.length_cons, List.length_nil, vcM, List.getElem?_toArray, List.getElem?_cons_zero, List.getElem?_cons_succ])
        (refine W_at c50_ok ?_; refine ⟨_, rfl, ?_⟩; simp (disch := first | omega | assumption | rfl | (simp only [vcS] <;> omega) | fail) only [↓ptV_l, ↓vcA, vcB, ↓vcD, vcE, ↓reduceIte, Nat.reduceEqDiff, Nat.reduceAdd, Nat.reduceMul, Nat.reduceLeDiff, Int.reduceLE, Int.reduceLT, Int.reduceEq, Int.reduceToNat, Int.reduceAdd, Int.reduceSub, Int.reduceMul, Int.reduceNeg, reduceCtorEq, Option.bind_some, Option.map_some, List.length_cons, List.length_nil, vcM, List.getElem?_toArray, List.getElem?_cons_zero, List.getElem?_cons_succ])
        (refine W_at c50_ok ?_; refine ⟨_, rfl, ?_⟩; simp (disch := first | omega | assumption | rfl | (simp only [vcS] <;> omega) | fail) only [↓ptV_l, ↓vcA, vcB, ↓vcD, vcE, ↓reduceIte, Nat.reduceEqDiff, Nat.reduceAdd, Nat.reduceMul, Nat.reduceLeDiff, Int.reduceLE, Int.reduceLT, Int.reduceEq, Int.reduceToNat, Int.reduceAdd, Int.reduceSub, Int.reduceMul, Int.reduceNeg, reduceCtorEq, Option.bind_some, Option.map_some, List.length_cons, List.length_nil, vcM, List.getElem?_toArray, List.getElem?_cons_zero, List.getElem?_cons_succ, b2, hlen, Int.toNat_natCast])
        (refine W_at c50_ok ?_; refine ⟨_, rfl, ?_⟩; simp (disch := first | omega | assumption | rfl | (simp only [vcS] <;> omega) | fail) only [↓ptV_l, ↓vcA, vcB, ↓vcD, vcE, ↓reduceIte, Nat.reduceEqDiff, Nat.reduceAdd, Nat.reduceMul, Nat.reduceLeDiff, Int.reduceLE, Int.reduceLT, Int.reduceEq, Int.reduceToNat, Int.reduceAdd, Int.reduceSub, Int.reduceMul, Int.reduceNeg, reduceCtorEq, Option.bind_some, Option.map_some, List.length_cons, List.length_nil, vcM, List.getElem?_toArray, List.getElem?_cons_zero, List.getElem?_cons_succ, hws])
        (refine W_at c50_ok ?_; refine ⟨_, rfl, ?_⟩; simp (disch := first | omega | assumption | rfl | (simp only [vcS] <;> omega) | fail) only [↓ptV_l, ↓vcA, vcB, ↓vcD, vcE, ↓reduceIte, Nat.reduceEqDiff, Nat.reduceAdd, Nat.reduceMul, Nat.reduceLeDiff, Int.reduceLE, Int.reduceLT, Int.reduceEq, Int.reduceToNat, Int.reduceAdd, Int.reduceSub, Int.reduceMul, Int.reduceNeg, reduceCtorEq, Option.bind_some, Option.map_some, List.length_cons, List.length_nil, vcM, List.getElem?_toArray, List.getElem?_cons_zero, List.getElem?_cons_succ])
        refine ih (A.drop 64) (i + 1) w2 _ qv2 d2 (by rw [List.length_drop]; omega) (hcut2.keep hk2 fun g c hg => hd1.nob hg (by decide) (by decide)) (hj.disk hd1 hk2) hD2 hRw.ok hd2 ?_ ?_ (byt_drop hb1 64) ?_ ?_ ?_
        · rw [hq2, List.length_append, List.length_drop]; simp; omega
        · rw [hRw.n, List.length_drop]; omega
        · exact hTt.elim fun _ h => hK.trans hk2 fun i hi hS => by
            rcases hS with h | h | h
            · exact .inl h
            · exact .inr (.inl h)
            · rcases hqb i h with h | h
              · exact .inr (.inr h)
              · exact absurd hi (by omega)
        · intro g hg
          rcases hb2 g hg with h | h
          · exact hqb g h
          · exact .inr (Nat.le_trans hK.size h)
        · intro d' e hR'
          refine hR d' e ?_
          rw [hpl]
          exact hRw.then hR'
      · (refine W_at c50_ok ?_; refine ⟨_, rfl, ?_⟩; simp (disch := first | omega | assumption | rfl | (simp only [vcS] <;> omega) | fail) only [↓ptV_l, ↓vcA, vcB, ↓vcD, vcE, ↓reduceIte, Nat.reduceEqDiff, Nat.reduceAdd, Nat.reduceMul, Nat.reduceLeDiff, Int.reduceLE, Int.reduceLT, Int.reduceEq, Int.reduceToNat, Int.reduceAdd, Int.reduceSub, Int.reduceMul, Int.reduceNeg, reduceCtorEq, Option.bind_some, Option.map_some, List.length_cons, List.length_nil, vcM, List.getElem?_toArray, List.getElem?_cons_zero, List.getElem?_cons_succ])
        (refine W_at c50_ok ?_; refine ⟨_, rfl, ?_⟩; simp (disch := first | omega | assumption | rfl | (simp only [vcS] <;> omega) | fail) only [↓ptV_l, ↓vcA, vcB, ↓vcD, vcE, ↓reduceIte, Nat.reduceEqDiff, Nat.reduceAdd, Nat.reduceMul, Nat.reduceLeDiff, Int.reduceLE, Int.reduceLT, Int.reduceEq, Int.reduceToNat, Int.reduceAdd, Int.reduceSub, Int.reduceMul, Int.reduceNeg, reduceCtorEq, Option.bind_some, Option.map_some, List.length_cons, List.length_nil, vcM, List.getElem?_toArray, List.getElem?_cons_zero, List.getElem?_cons_succ])
        (refine W_at c50_ok ?_; refine ⟨_, rfl, ?_⟩; simp (disch := first | omega | assumption | rfl | (simp only [vcS] <;> omega) | fail) only [↓ptV_l, ↓vcA, vcB, ↓vcD, vcE, ↓reduceIte, Nat.reduceEqDiff, Nat.reduceAdd, Nat.reduceMul, Nat.reduceLeDiff, Int.reduceLE, Int.reduceLT, Int.reduceEq, Int.reduceToNat, Int.reduceAdd, Int.reduceSub, Int.reduceMul, Int.reduceNeg, reduceCtorEq, Option.bind_some, Option.map_some, List.length_cons, List.length_nil, vcM, List.getElem?_toArray, List.getElem?_cons_zero, List.getElem?_cons_succ])
        (refine W_at c50_ok ?_; refine ⟨_, rfl, ?_⟩; simp (disch := first | omega | assumption | rfl | (simp only [vcS] <;> omega) | fail) only [↓ptV_l, ↓vcA, vcB, ↓vcD, vcE, ↓reduceIte, Nat.reduceEqDiff, Nat.reduceAdd, Nat.reduceMul, Nat.reduceLeDiff, Int.reduceLE, Int.reduceLT, Int.reduceEq, Int.reduceToNat, Int.reduceAdd, Int.reduceSub, Int.reduceMul, Int.reduceNeg, reduceCtorEq, Option.bind_some, Option.map_some, List.length_cons, List.length_nil, vcM, List.getElem?_toArray, List.getElem?_cons_zero, List.getElem?_cons_succ, Ret_returned])
        refine ⟨d2, 10, rfl, hTt, hR _ _ ?_⟩
        rw [hpl]
        exact hRw.die (by decide)
  have hE2 := hE.ext hN2.ext
  have hlA : (ahead d hd pos).length = pos % 64 := hfl
  refine L _ (ahead d hd pos ++ bs) (baseN d.n hd + pos / 64) w2 vall qv d (Nat.le_refl _) (ByT.own hN2.own) (h.ext hE2) (hD.ext hE2) hk hde ?_ ?_ ?_ (hE2.mono fun _ h => h.elim) (fun g hg => .inl hg) fun d' e hR => hR
  · rw [List.length_append, hlA, hq]; simp; omega
  · rw [List.length_append, hlA]; omega
  · exact byt_app (byt_take (hk.safe _).2 _) hb
end Go.Proofs
