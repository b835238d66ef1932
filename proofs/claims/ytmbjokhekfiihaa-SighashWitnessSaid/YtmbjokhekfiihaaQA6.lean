/- 'strongboxlaw12.SighashWitness' returns true for every input, and the input reads as it did. No condition. -/
import Derived.Test.YtmbjokhekfiihaaQA5
import Derived.Test.YtmbjokhekfiihaaRows
set_option linter.unusedSimpArgs false
set_option linter.unusedVariables false
set_option linter.constructorNameAsVariable false
namespace Go.Proofs
open Go.Vc
set_option maxRecDepth 10000

theorem U32_mulC (y : BitVec 32) : binR .mul (U32 y) (.int .u32 256) = some (U32 (y * 256#32)) := U32_mul y 256#32
def accF (blk : List Int) (t : Nat) : Nat → BitVec 32
  | 0 => 0
  | i + 1 => accF blk t i * 256#32 + b32 (blk.getD (4 * t + i) 0)
theorem word_acc (a b c d : Int) (ha : 0 ≤ a ∧ a ≤ 255) (hb : 0 ≤ b ∧ b ≤ 255) (hc : 0 ≤ c ∧ c ≤ 255) (hd : 0 ≤ d ∧ d ≤ 255) : (((0#32 * 256#32 + b32 a) * 256#32 + b32 b) * 256#32 + b32 c) * 256#32 + b32 d = wordF a b c d := by
  apply BitVec.eq_of_toNat_eq
  have e1 : (b32 a).toNat = a.toNat := by unfold b32; rw [BitVec.toNat_ofNat, Nat.mod_eq_of_lt (by omega)]
  have e2 : (b32 b).toNat = b.toNat := by unfold b32; rw [BitVec.toNat_ofNat, Nat.mod_eq_of_lt (by omega)]
  have e3 : (b32 c).toNat = c.toNat := by unfold b32; rw [BitVec.toNat_ofNat, Nat.mod_eq_of_lt (by omega)]
  have e4 : (b32 d).toNat = d.toNat := by unfold b32; rw [BitVec.toNat_ofNat, Nat.mod_eq_of_lt (by omega)]
  unfold wordF
  simp only [BitVec.toNat_or, BitVec.toNat_shiftLeft, BitVec.toNat_add, BitVec.toNat_mul, e1, e2, e3, e4, BitVec.toNat_ofNat]
  rw [Nat.mod_eq_of_lt (a := a.toNat <<< 24) (by rw [Nat.shiftLeft_eq]; omega), Nat.mod_eq_of_lt (a := b.toNat <<< 16) (by rw [Nat.shiftLeft_eq]; omega), Nat.mod_eq_of_lt (a := c.toNat <<< 8) (by rw [Nat.shiftLeft_eq]; omega)]
  have s1 : a.toNat <<< 24 ||| b.toNat <<< 16 = a.toNat <<< 24 + b.toNat <<< 16 := (Nat.shiftLeft_add_eq_or_of_lt (by rw [Nat.shiftLeft_eq]; omega) _).symm
  have s2 : (a.toNat <<< 24 + b.toNat <<< 16) ||| c.toNat <<< 8 = a.toNat <<< 24 + b.toNat <<< 16 + c.toNat <<< 8 := by
    have e : a.toNat <<< 24 + b.toNat <<< 16 = (a.toNat * 256 + b.toNat) <<< 16 := by simp only [Nat.shiftLeft_eq]; omega
    rw [e]
    exact (Nat.shiftLeft_add_eq_or_of_lt (by rw [Nat.shiftLeft_eq]; omega) _).symm
  have s3 : (a.toNat <<< 24 + b.toNat <<< 16 + c.toNat <<< 8) ||| d.toNat = a.toNat <<< 24 + b.toNat <<< 16 + c.toNat <<< 8 + d.toNat := by
    have e : a.toNat <<< 24 + b.toNat <<< 16 + c.toNat <<< 8 = (a.toNat * 65536 + b.toNat * 256 + c.toNat) <<< 8 := by simp only [Nat.shiftLeft_eq]; omega
    rw [e]
    exact (Nat.shiftLeft_add_eq_or_of_lt (by omega) _).symm
  rw [s1, s2, s3]
  simp only [Nat.shiftLeft_eq]
  omega
theorem acc4 (blk : List Int) (t : Nat) (h : ∀ i, i < 4 → 0 ≤ blk.getD (4 * t + i) 0 ∧ blk.getD (4 * t + i) 0 ≤ 255) : accF blk t 4 = wordF (blk.getD (4 * t) 0) (blk.getD (4 * t + 1) 0) (blk.getD (4 * t + 2) 0) (blk.getD (4 * t + 3) 0) :=
  word_acc _ _ _ _ (h 0 (by omega)) (h 1 (by omega)) (h 2 (by omega)) (h 3 (by omega))
/-- The word that is being made. -/
def arrP (ws : List (BitVec 32)) (t : Nat) (x : BitVec 32) : Array Value := (arrW ws t).setIfInBounds t (U32 x)
theorem arrP_0 (ws : List (BitVec 32)) (t : Nat) (hl : ws.length = 64) (ht : t < 64) : arrP ws t 0 = arrW ws t := by
  unfold arrP arrW
  rw [List.setIfInBounds_toArray]
  congr 1
  have hlt : ((ws.take t).map U32).length = t := by simp [hl]; omega
  rw [show 64 - t = (64 - (t + 1)) + 1 by omega, List.replicate_succ, List.set_append_right _ _ (by omega), hlt, Nat.sub_self, List.set_cons_zero]
  rfl
theorem arrP_at (ws : List (BitVec 32)) (t : Nat) (x : BitVec 32) (hl : ws.length = 64) (ht : t < 64) : (arrP ws t x)[t]? = some (U32 x) := by
  unfold arrP
  rw [Array.getElem?_setIfInBounds_self_of_lt]
  rw [arrW_size ws t hl (by omega)]; exact ht
theorem arrP_set (ws : List (BitVec 32)) (t : Nat) (x y : BitVec 32) : (arrP ws t x).setIfInBounds t (U32 y) = arrP ws t y := by
  unfold arrP
  rw [Array.setIfInBounds_setIfInBounds]
theorem arrP_size (ws : List (BitVec 32)) (t : Nat) (x : BitVec 32) (hl : ws.length = 64) (ht : t < 64) : (arrP ws t x).size = 64 := by
  unfold arrP; rw [Array.size_setIfInBounds, arrW_size ws t hl (by omega)]
theorem arrP_done (ws : List (BitVec 32)) (t : Nat) (x : BitVec 32) (hl : ws.length = 64) (ht : t < 64) (hx : ws[t]? = some x) : arrP ws t x = arrW ws (t + 1) := arrW_set ws t x hl ht hx
/-- The digest's bytes so far. -/
def outP (s : S8) (i : Nat) : List Int := (outF s).take i ++ List.replicate (32 - i) 0
theorem outF_at (s : S8) (i : Nat) (h : i < 32) : (outF s)[i]? = some (((((s.list.getD (i / 4) 0) >>> (24 - 8 * (i % 4))).toNat % 256 : Nat)) : Int) := by
  obtain ⟨a, b, hb, rfl⟩ : ∃ a b, b < 4 ∧ i = 4 * a + b := ⟨i / 4, i % 4, by omega, by omega⟩
  have e1 : (4 * a + b) / 4 = a := by omega
  have e2 : (4 * a + b) % 4 = b := by omega
  have ha : a < 8 := by omega
  rw [e1, e2]
  clear e1 e2 h
  match a, ha with
  | 0, _ => match b, hb with
    | 0, _ => rfl
    | 1, _ => rfl
    | 2, _ => rfl
    | 3, _ => rfl
  | 1, _ => match b, hb with
    | 0, _ => rfl
    | 1, _ => rfl
    | 2, _ => rfl
    | 3, _ => rfl
  | 2, _ => match b, hb with
    | 0, _ => rfl
    | 1, _ => rfl
    | 2, _ => rfl
    | 3, _ => rfl
  | 3, _ => match b, hb with
    | 0, _ => rfl
    | 1, _ => rfl
    | 2, _ => rfl
    | 3, _ => rfl
  | 4, _ => match b, hb with
    | 0, _ => rfl
    | 1, _ => rfl
    | 2, _ => rfl
    | 3, _ => rfl
  | 5, _ => match b, hb with
    | 0, _ => rfl
    | 1, _ => rfl
    | 2, _ => rfl
    | 3, _ => rfl
  | 6, _ => match b, hb with
    | 0, _ => rfl
    | 1, _ => rfl
    | 2, _ => rfl
    | 3, _ => rfl
  | 7, _ => match b, hb with
    | 0, _ => rfl
    | 1, _ => rfl
    | 2, _ => rfl
    | 3, _ => rfl
theorem outP_len (s : S8) (i : Nat) (h : i ≤ 32) : (outP s i).length = 32 := by
  unfold outP; rw [List.length_append, List.length_take, outF_len, List.length_replicate]; omega
theorem outP_set (s : S8) (i : Nat) (h : i < 32) : (outP s i).set i (((((s.list.getD (i / 4) 0) >>> (24 - 8 * (i % 4))).toNat % 256 : Nat)) : Int) = outP s (i + 1) := by
  unfold outP
  have hlt : ((outF s).take i).length = i := by rw [List.length_take, outF_len]; omega
  rw [show 32 - i = (32 - (i + 1)) + 1 by omega, List.replicate_succ, List.set_append_right _ _ (by omega), hlt, Nat.sub_self, List.set_cons_zero, List.take_add_one, outF_at s i h]
  simp
theorem outP_32 (s : S8) : outP s 32 = outF s := by
  unfold outP; rw [List.take_of_length_le (by rw [outF_len]; omega)]; simp
theorem wcs8_size (s : S8) : (wcs s.list).size = 8 := wcs_size _
theorem wcs8_bld (a b c d e f g h : BitVec 32) : (#[U32 a] ++ (#[U32 b] ++ (#[U32 c] ++ (#[U32 d] ++ (#[U32 e] ++ (#[U32 f] ++ #[U32 g, U32 h]))))) : Array Value) = wcs (S8.list ⟨a, b, c, d, e, f, g, h⟩) := by
  apply Array.ext'
  simp [wcs, S8.list]
set_option maxHeartbeats 3200000 in
theorem rsum_ok (w : World) (x : Value) (bs : List Int) (hx : Rd w x bs) (hbs : byt bs) (hl : bs.length ≤ 100000000) :
    Calls Try.prog 57 #[x] w (Ret fun u w' => u = .agg (bv (shaF bs)).toArray ∧ Ext w w') := by
  refine calls_of_cfg c57_ok (Nat.le_of_ble_eq_true rfl) ?_
  simp only [argE_nil, argE_cons, Nat.zero_add]
  (refine W_at c57_ok ?_; refine ⟨_, rfl, ?_⟩; simp (disch := first | omega | assumption | rfl | (simp only [vcS] <;> omega) | fail) only [↓ptV_l, ↓vcA, vcB, ↓reduceIte, reduceCtorEq])
  have hE0 : Ext w (w.alloc (.cells (zc [(32, .int .u8 0)]) 35)) := (Keep.refl _ w).alloc _
  have hp2 : (w.alloc (.cells (zc [(32, .int .u8 0)]) 35)).heap[w.heap.size]? = some (.cells (bv (List.replicate 32 0)).toArray 35 (0, 0)) := heap_new _ _ _ rfl
  generalize World.alloc _ _ = w1 at hE0 hp2 ⊢
  generalize hp2e : w.heap.size = p2 at hp2 ⊢
  (refine W_at c57_ok ?_; refine ⟨_, rfl, ?_⟩; simp (disch := first | omega | assumption | rfl | (simp only [vcS] <;> omega) | fail) only [↓ptV_l, ↓vcA, vcB, ↓reduceIte, Nat.reduceEqDiff, reduceCtorEq, Option.bind_some, Option.map_some, vcM])
  have e64 : (#[Value.int .u32 1116352408] ++ (#[Value.int .u32 1899447441] ++ (#[Value.int .u32 3049323471] ++ (#[Value.int .u32 3921009573] ++ (#[Value.int .u32 961987163] ++ (#[Value.int .u32 1508970993] ++ (#[Value.int .u32 2453635748] ++ (#[Value.int .u32 2870763221] ++ (#[Value.int .u32 3624381080] ++ (#[Value.int .u32 310598401] ++ (#[Value.int .u32 607225278] ++ (#[Value.int .u32 1426881987] ++ (#[Value.int .u32 1925078388] ++ (#[Value.int .u32 2162078206] ++ (#[Value.int .u32 2614888103] ++ (#[Value.int .u32 3248222580] ++ (#[Value.int .u32 3835390401] ++ (#[Value.int .u32 4022224774] ++ (#[Value.int .u32 264347078] ++ (#[Value.int .u32 604807628] ++ (#[Value.int .u32 770255983] ++ (#[Value.int .u32 1249150122] ++ (#[Value.int .u32 1555081692] ++ (#[Value.int .u32 1996064986] ++ (#[Value.int .u32 2554220882] ++ (#[Value.int .u32 2821834349] ++ (#[Value.int .u32 2952996808] ++ (#[Value.int .u32 3210313671] ++ (#[Value.int .u32 3336571891] ++ (#[Value.int .u32 3584528711] ++ (#[Value.int .u32 113926993] ++ (#[Value.int .u32 338241895] ++ (#[Value.int .u32 666307205] ++ (#[Value.int .u32 773529912] ++ (#[Value.int .u32 1294757372] ++ (#[Value.int .u32 1396182291] ++ (#[Value.int .u32 1695183700] ++ (#[Value.int .u32 1986661051] ++ (#[Value.int .u32 2177026350] ++ (#[Value.int .u32 2456956037] ++ (#[Value.int .u32 2730485921] ++ (#[Value.int .u32 2820302411] ++ (#[Value.int .u32 3259730800] ++ (#[Value.int .u32 3345764771] ++ (#[Value.int .u32 3516065817] ++ (#[Value.int .u32 3600352804] ++ (#[Value.int .u32 4094571909] ++ (#[Value.int .u32 275423344] ++ (#[Value.int .u32 430227734] ++ (#[Value.int .u32 506948616] ++ (#[Value.int .u32 659060556] ++ (#[Value.int .u32 883997877] ++ (#[Value.int .u32 958139571] ++ (#[Value.int .u32 1322822218] ++ (#[Value.int .u32 1537002063] ++ (#[Value.int .u32 1747873779] ++ (#[Value.int .u32 1955562222] ++ (#[Value.int .u32 2024104815] ++ (#[Value.int .u32 2227730452] ++ (#[Value.int .u32 2361852424] ++ (#[Value.int .u32 2428436474] ++ (#[Value.int .u32 2756734187] ++ (#[Value.int .u32 3204031479, Value.int .u32 3329325298])))))))))))))))))))))))))))))))))))))))))))))))))))))))))))))) : Array Value) = wcs kL := by kernel_rfl
  rw [e64]
  clear e64
  have s64 : (wcs kL).size = 64 := by rw [wcs_size, kL_len]
  have z64 : (zc [(64, Value.int .u32 0)]).size = 64 := by simp [zc, runs]
  have hE1 : Ext w1 ((w1.alloc (.cells (zc [(64, .int .u32 0)]) 97)).putN w1.heap.size 0 (wcs kL)) := ((Keep.refl _ w1).alloc _).putN _ (by intro hh; exfalso; omega)
  have hp3 : ((w1.alloc (.cells (zc [(64, .int .u32 0)]) 97)).putN w1.heap.size 0 (wcs kL)).heap[w1.heap.size]? = some (.cells (wcs kL) 97 (0, 0)) := by
    rw [heap_putN_eq (heap_new _ _ _ rfl), splice_all (by rw [s64, z64])]
  first | refine ⟨s64, wcs_flat _, ?_⟩ | skip
  have hp2l := lt_of_heap hp2
  generalize World.putN _ _ _ _ = w2 at hE1 hp3 ⊢
  generalize w1.heap.size = p3 at hp3 hp2l ⊢
  have hp22 := hE1.at hp2 (fun h => h)
  (refine W_at c57_ok ?_; refine ⟨_, rfl, ?_⟩; simp (disch := first | omega | assumption | rfl | (simp only [vcS] <;> omega) | fail) only [↓ptV_l, ↓vcA, vcB, ↓reduceIte, Nat.reduceEqDiff, reduceCtorEq, Option.bind_some, Option.map_some, vcM])
  have e8 : (#[Value.int .u32 1779033703] ++ (#[Value.int .u32 3144134277] ++ (#[Value.int .u32 1013904242] ++ (#[Value.int .u32 2773480762] ++ (#[Value.int .u32 1359893119] ++ (#[Value.int .u32 2600822924] ++ (#[Value.int .u32 528734635, Value.int .u32 1541459225])))))) : Array Value) = wcs iv.list := by kernel_rfl
  rw [e8]
  clear e8
  have s8 : (wcs iv.list).size = 8 := wcs_size _
  have hE2 : Ext w2 ((w2.alloc (.cells (zc [(8, .int .u32 0)]) 83)).putN w2.heap.size 0 (wcs iv.list)) := ((Keep.refl _ w2).alloc _).putN _ (by intro hh; exfalso; omega)
  have hp4 : ((w2.alloc (.cells (zc [(8, .int .u32 0)]) 83)).putN w2.heap.size 0 (wcs iv.list)).heap[w2.heap.size]? = some (.cells (wcs iv.list) 83 (0, 0)) := by
    rw [heap_putN_eq (heap_new _ _ _ rfl), splice_all (by rfl)]
  first | refine ⟨s8, wcs_flat _, ?_⟩ | skip
  have hp3l := lt_of_heap hp3
  generalize World.putN _ _ _ _ = w3 at hE2 hp4 ⊢
  generalize w2.heap.size = p4 at hp4 hp3l ⊢
  have hEE := (hE0.ext hE1).ext hE2
  (refine W_at c57_ok ?_; refine ⟨_, rfl, ?_⟩; simp (disch := first | omega | assumption | rfl | (simp only [vcS] <;> omega) | fail) only [↓ptV_l, ↓vcA, vcB, ↓reduceIte, Nat.reduceEqDiff, reduceCtorEq, Option.bind_some, Option.map_some])
  refine callV_ret (fill_ok w3 x bs (hx.ext hEE) hl) ?_
  intro mv w4 hN
  have hp24 := (hE2.ext hN.ext).at hp22 (fun h => h)
  have hp34 := (hE2.ext hN.ext).at hp3 (fun h => h)
  have hp44 := hN.ext.at hp4 (fun h => h)
  have hEw4 := hEE.ext hN.ext
  have hmb : byt (allF bs) := byt_app hbs (padF_byt _)
  obtain ⟨nb, hnb⟩ := allF_len bs
  have hpl := padF_len bs.length
  have hall : (allF bs).length ≤ 200000000 := by unfold allF; rw [List.length_append]; omega
  have hm4 := hN.own
  have hmnew := hN.new
  have hp4l3 := lt_of_heap hp4
  have hsha : shaF bs = outF (runN (nb + 1) iv (allF bs)) := by unfold shaF; rw [hnb, Nat.mul_div_cancel_left _ (by omega)]
  rw [hsha]
  generalize allF bs = mm at hm4 hmb hnb hall ⊢
  first | (simp (disch := first | omega | assumption | rfl | (simp only [vcS] <;> omega) | fail) only [↓ptV_l, ↓vcA, vcB, ↓vcD, vcE, ↓reduceIte, Nat.reduceEqDiff, Nat.reduceAdd, Nat.reduceMul, Nat.reduceLeDiff, Int.reduceLE, Int.reduceLT, Int.reduceEq, Int.reduceToNat, Int.reduceAdd, Int.reduceSub, Int.reduceMul, Int.reduceNeg, reduceCtorEq, Option.bind_some, Option.map_some, List.length_cons, List.length_nil, vcM, List.getElem?_toArray, List.getElem?_cons_zero, List.getElem?_cons_succ]) | skip
  (refine W_at c57_ok ?_; refine ⟨_, rfl, ?_⟩; simp (disch := first | omega | assumption | rfl | (simp only [vcS] <;> omega) | fail) only [↓vcA, vcB, ↓reduceIte, Nat.reduceEqDiff])
  have hp2w : w.heap.size ≤ p2 := by omega
  -- the bytes of the digest
  have fin : ∀ (wj : World) (st : S8) (tl : Env), wj.heap[p4]? = some (.cells (wcs st.list) 83 (0, 0)) → wj.heap[p2]? = some (.cells (bv (List.replicate 32 0)).toArray 35 (0, 0)) → Ext w wj → st = runN (nb + 1) iv mm →
      W Try.prog (Ret fun u w' => u = .agg (bv (outF (runN (nb + 1) iv mm))).toArray ∧ Ext w w') 57 9 ((2, .pointer (some ⟨p2, 0, none⟩)) :: (3, .pointer (some ⟨p3, 0, none⟩)) :: (4, .pointer (some ⟨p4, 0, none⟩)) :: tl) wj := by
    intro wj st tl h4 h2 hE hst
    (refine W_at c57_ok ?_; refine ⟨_, rfl, ?_⟩; simp (disch := first | omega | assumption | rfl | (simp only [vcS] <;> omega) | fail) only [↓ptV_l, ↓vcA, vcB, ↓reduceIte, Nat.reduceEqDiff])
    have hEa : Ext wj (wj.alloc (.cells (zc [(32, .int .u8 0)]) 35)) := (Keep.refl _ wj).alloc _
    have h18 : (wj.alloc (.cells (zc [(32, .int .u8 0)]) 35)).heap[wj.heap.size]? = some (.cells (bv (outP st 0)).toArray 35 (0, 0)) := heap_new _ _ _ rfl
    have h4l := lt_of_heap h4
    have h2l := lt_of_heap h2
    have hwl := hE.size
    generalize World.alloc _ _ = wa at hEa h18 ⊢
    generalize wj.heap.size = p18 at h18 h4l h2l hwl ⊢
    have h4a := hEa.at h4 (fun h => h)
    have h2a := hEa.at h2 (fun h => h)
    (refine W_at c57_ok ?_; refine ⟨_, rfl, ?_⟩; simp (disch := first | omega | assumption | rfl | (simp only [vcS] <;> omega) | fail) only [↓vcA, vcB, ↓reduceIte, Nat.reduceEqDiff])
    have LE : ∀ (k i : Nat) (wz : World), i + k = 32 → wz.heap[p18]? = some (.cells (bv (outP st i)).toArray 35 (0, 0)) → wz.heap[p4]? = some (.cells (wcs st.list) 83 (0, 0)) → wz.heap[p2]? = some (.cells (bv (List.replicate 32 0)).toArray 35 (0, 0)) → Ext w wz →
        W Try.prog (Ret fun u w' => u = .agg (bv (outF (runN (nb + 1) iv mm))).toArray ∧ Ext w w') 57 7 [(2, .pointer (some ⟨p2, 0, none⟩)), (4, .pointer (some ⟨p4, 0, none⟩)), (18, .pointer (some ⟨p18, 0, none⟩)), (19, .int .i64 (i : Nat))] wz := by
      intro k
      induction k with
      | zero =>
        intro i wz hi h18 h4 h2 hEz
        obtain rfl : i = 32 := by omega
        rw [outP_32] at h18
        have hr32 : rdO (some (.cells (bv (outF st)).toArray 35 (0, 0))) 0 32 = some (bv (outF st)).toArray := rdO_all _ _ _ _ (by rw [bva_size, outF_len])
        have s32 : (bv (outF st)).toArray.size = 32 := by rw [bva_size, outF_len]
        have hok : okO (some (.cells (bv (List.replicate 32 0)).toArray 35 (0, 0))) 0 32 = True := by simp only [okO, bva_size, List.length_replicate]; simp
        (refine W_at c57_ok ?_; refine ⟨_, rfl, ?_⟩; simp (disch := first | omega | assumption | rfl | (simp only [vcS] <;> omega) | fail) only [↓vcA, vcB, ↓reduceIte, Nat.reduceEqDiff, Int.reduceLT, Option.bind_some, vcM])
        (refine W_at c57_ok ?_; refine ⟨_, rfl, ?_⟩; simp (disch := first | omega | assumption | rfl | (simp only [vcS] <;> omega) | fail) only [↓vcA, vcB, ↓reduceIte, Nat.reduceEqDiff])
        (refine W_at c57_ok ?_; refine ⟨_, rfl, ?_⟩; simp (disch := first | omega | assumption | rfl | (simp only [vcS] <;> omega) | fail) only [↓ptV_l, ↓vcA, vcB, ↓reduceIte, Nat.reduceEqDiff, Option.bind_some, Option.map_some, vcM, h18, h2, hr32, s32, hok])
        have k2 : Keep (fun y => y = p2) wz (wz.putN p2 0 (bv (outF st)).toArray) := (Keep.refl _ wz).putN _ fun _ => rfl
        have h2' : (wz.putN p2 0 (bv (outF st)).toArray).heap[p2]? = some (.cells (bv (outF st)).toArray 35 (0, 0)) := by
          rw [heap_putN_eq h2, splice_all (by rw [bva_size, bva_size, outF_len]; rfl)]
        refine ⟨bv_flat _, ?_⟩
        have hEk : Ext w (wz.putN p2 0 (bv (outF st)).toArray) := hEz.trans k2 fun x hx e => by omega
        generalize World.putN _ _ _ _ = wk at k2 h2' hEk ⊢
        (refine W_at c57_ok ?_; refine ⟨_, rfl, ?_⟩; simp (disch := first | omega | assumption | rfl | (simp only [vcS] <;> omega) | fail) only [↓vcA, vcB, ↓reduceIte, Option.bind_some, Option.map_some, vcM, Ret_returned, h2', hr32])
        exact ⟨by rw [← hst], hEk⟩
      | succ k ih =>
        intro i wz hi h18 h4 h2 hEz
        have hlt : ((i : Nat) : Int) < 32 := by omega
        have b1 : 0 ≤ ((i : Nat) : Int) ∧ ((i : Nat) : Int) < 32 := by omega
        have hwi : IntKind.i64.wrap (((i : Nat) : Int) + 1) = ((i + 1 : Nat) : Int) := wrap_i64 (by omega) (by omega)
        have hq : Int.tdiv ((i : Nat) : Int) 4 = ((i / 4 : Nat) : Int) := by rw [Int.tdiv_eq_ediv_of_nonneg (by omega)]; omega
        have hq2 : IntKind.i64.wrap ((i / 4 : Nat) : Int) = ((i / 4 : Nat) : Int) := wrap_i64 (by omega) (by omega)
        have hm : Int.tmod ((i : Nat) : Int) 4 = ((i % 4 : Nat) : Int) := by rw [Int.tmod_eq_emod_of_nonneg (by omega)]; omega
        have hw8 : IntKind.i64.wrap (8 * ((i % 4 : Nat) : Int)) = ((8 * (i % 4) : Nat) : Int) := by rw [wrap_i64 (by omega) (by omega)]; omega
        have hws : IntKind.i64.wrap (24 - ((8 * (i % 4) : Nat) : Int)) = ((24 - 8 * (i % 4) : Nat) : Int) := by rw [wrap_i64 (by omega) (by omega)]; omega
        have hwu : IntKind.u64.wrap ((24 - 8 * (i % 4) : Nat) : Int) = ((24 - 8 * (i % 4) : Nat) : Int) := by rw [wrap_u64]; omega
        have bq : 0 ≤ ((i / 4 : Nat) : Int) ∧ ((i / 4 : Nat) : Int) < 8 := by omega
        have hel := wcs8_at st (i / 4) (by omega)
        have hsh := U32_shr (st.list.getD (i / 4) 0) .u64 (24 - 8 * (i % 4)) (by omega)
        obtain ⟨a1, c1, e1⟩ := poke (((((st.list.getD (i / 4) 0) >>> (24 - 8 * (i % 4))).toNat % 256 : Nat)) : Int) h18 (i := i) (by rw [outP_len _ _ (by omega)]; omega)
        rw [outP_set st i (by omega)] at c1
        (refine W_at c57_ok ?_; refine ⟨_, rfl, ?_⟩; simp (disch := first | omega | assumption | rfl | (simp only [vcS] <;> omega) | fail) only [↓vcA, vcB, ↓reduceIte, Nat.reduceEqDiff, Option.bind_some, hlt])
        (refine W_at c57_ok ?_; refine ⟨_, rfl, ?_⟩; simp (disch := first | omega | assumption | rfl | (simp only [vcS] <;> omega) | fail) only [↓vcA, vcB, ↓reduceIte, Nat.reduceEqDiff])
        (refine W_at c57_ok ?_; refine ⟨_, rfl, ?_⟩; simp (disch := first | omega | assumption | rfl | (simp only [vcS] <;> omega) | fail) only [↓ptV_l, ↓vcA, vcB, ↓reduceIte, Nat.reduceEqDiff, Int.reduceEq, Option.bind_some, vcM, h4, hq, hq2, hm, hw8, hws, hwu, bq, b1, Int.toNat_natCast, Nat.mul_one, hel, hsh, cvi8])
        refine ⟨a1, ?_⟩
        have h4k := e1.at h4 (by omega)
        have h2k := e1.at h2 (by omega)
        have hEk := hEz.trans e1 fun x hx e => by omega
        generalize World.setCell _ _ _ = wk at c1 h4k h2k hEk ⊢
        (refine W_at c57_ok ?_; refine ⟨_, rfl, ?_⟩; simp (disch := first | omega | assumption | rfl | (simp only [vcS] <;> omega) | fail) only [↓vcA, vcB, ↓reduceIte, Nat.reduceEqDiff, Option.bind_some, hwi])
        (refine W_at c57_ok ?_; refine ⟨_, rfl, ?_⟩; simp (disch := first | omega | assumption | rfl | (simp only [vcS] <;> omega) | fail) only [vcB])
        exact ih (i + 1) wk (by omega) c1 h4k h2k hEk
    exact LE 32 0 wa (by omega) h18 h4a h2a (hE.ext hEa)
  have L : ∀ (k j : Nat) (wj : World), j + k = nb + 1 → wj.heap[p4]? = some (.cells (wcs (runN j iv mm).list) 83 (0, 0)) → wj.heap[p2]? = some (.cells (bv (List.replicate 32 0)).toArray 35 (0, 0)) → wj.heap[p3]? = some (.cells (wcs kL) 97 (0, 0)) → Own1 wj mv mm → Ext w wj →
      W Try.prog (Ret fun u w' => u = .agg (bv (outF (runN (nb + 1) iv mm))).toArray ∧ Ext w w') 57 48 [(2, .pointer (some ⟨p2, 0, none⟩)), (3, .pointer (some ⟨p3, 0, none⟩)), (4, .pointer (some ⟨p4, 0, none⟩)), (5, mv), (6, .int .i64 ((64 * j : Nat) : Int))] wj := by
    intro k
    induction k with
    | zero =>
      intro j wj hj h4 h2 h3 hO hE
      obtain rfl : j = nb + 1 := by omega
      have hlm := hO.rd.len
      have hno : ¬ ((64 * (nb + 1) : Nat) : Int) < (mm.length : Nat) := by omega
      (refine W_at c57_ok ?_; refine ⟨_, rfl, ?_⟩; simp (disch := first | omega | assumption | rfl | (simp only [vcS] <;> omega) | fail) only [↓vcA, vcB, ↓reduceIte, Nat.reduceEqDiff, Option.bind_some, hlm, hno])
      (refine W_at c57_ok ?_; refine ⟨_, rfl, ?_⟩; simp (disch := first | omega | assumption | rfl | (simp only [vcS] <;> omega) | fail) only [↓vcA, vcB, ↓reduceIte, Nat.reduceEqDiff])
      exact fin wj _ _ h4 h2 hE rfl
    | succ k ih =>
      intro j wj hj h4 h2 h3 hO hE
      have hlm := hO.rd.len
      have hyes : ((64 * j : Nat) : Int) < (mm.length : Nat) := by omega
      have hstep := runN_step mm j
      have hblen : ((mm.drop (64 * j)).take 64).length = 64 := by rw [List.length_take, List.length_drop]; omega
      have hbat : ∀ o, o < 64 → ((mm.drop (64 * j)).take 64).getD o 0 = mm.getD (64 * j + o) 0 := fun o ho => by
        simp only [List.getD, List.getElem?_take_of_lt ho, List.getElem?_drop]
      have hbb : byt ((mm.drop (64 * j)).take 64) := byt_take (byt_drop hmb _) _
      generalize (mm.drop (64 * j)).take 64 = blk at hstep hblen hbat hbb
      have hws := wsF_len blk
      have hcomp : compF (runN j iv mm) blk = (runN j iv mm).add (rndN 64 (runN j iv mm) kL (wsF blk)) := rfl
      generalize hwsd : wsF blk = ws at hws hcomp
      rw [hcomp] at hstep
      generalize runN j iv mm = st at hstep h4
      have hw64 : IntKind.i64.wrap (((64 * j : Nat) : Int) + 64) = ((64 * (j + 1) : Nat) : Int) := by rw [wrap_i64 (by omega) (by omega)]; omega
      (refine W_at c57_ok ?_; refine ⟨_, rfl, ?_⟩; simp (disch := first | omega | assumption | rfl | (simp only [vcS] <;> omega) | fail) only [↓vcA, vcB, ↓reduceIte, Nat.reduceEqDiff, Option.bind_some, hlm, hyes])
      (refine W_at c57_ok ?_; refine ⟨_, rfl, ?_⟩; simp (disch := first | omega | assumption | rfl | (simp only [vcS] <;> omega) | fail) only [↓vcA, vcB, ↓reduceIte, Nat.reduceEqDiff])
      (refine W_at c57_ok ?_; refine ⟨_, rfl, ?_⟩; simp (disch := first | omega | assumption | rfl | (simp only [vcS] <;> omega) | fail) only [↓ptV_l, ↓vcA, vcB, ↓reduceIte, Nat.reduceEqDiff])
      have hEa : Ext wj (wj.alloc (.cells (zc [(64, .int .u32 0)]) 97)) := (Keep.refl _ wj).alloc _
      have h7 : (wj.alloc (.cells (zc [(64, .int .u32 0)]) 97)).heap[wj.heap.size]? = some (.cells (arrW ws 0) 97 (0, 0)) := by rw [arrW_0]; exact heap_new _ _ _ rfl
      have h4l := lt_of_heap h4
      have h3l := lt_of_heap h3
      have h2l := lt_of_heap h2
      have hml : ∀ g, Go.Proofs.blk mv g → g < wj.heap.size := fun g hg => hO.lt hg
      generalize World.alloc _ _ = wa at hEa h7 ⊢
      generalize hp7e : wj.heap.size = p7 at h7 h4l h3l h2l hml ⊢
      have hEwa := hE.ext hEa
      -- the rest of a block
      have restB : ∀ (wz : World) (tl : Env), wz.heap[p7]? = some (.cells (wcs ws) 97 (0, 0)) → Ext wj wz → W Try.prog (Ret fun u w' => u = .agg (bv (outF (runN (nb + 1) iv mm))).toArray ∧ Ext w w') 57 26 ((2, .pointer (some ⟨p2, 0, none⟩)) :: (3, .pointer (some ⟨p3, 0, none⟩)) :: (4, .pointer (some ⟨p4, 0, none⟩)) :: (5, mv) :: (6, .int .i64 ((64 * j : Nat) : Int)) :: (7, .pointer (some ⟨p7, 0, none⟩)) :: tl) wz := by
        intro wz tl h7 hEz
        have hwz := hE.ext hEz
        have h4z := hEz.at h4 (fun h => h)
        have h2z := hEz.at h2 (fun h => h)
        have h3z := hEz.at h3 (fun h => h)
        have hOz := hO.ext hEz
        have s8 : (wcs st.list).size = 8 := wcs_size _
        have hr8 : rdO (some (.cells (wcs st.list) 83 (0, 0))) 0 8 = some (wcs st.list) := rdO_all _ _ _ _ s8
        (refine W_at c57_ok ?_; refine ⟨_, rfl, ?_⟩; simp (disch := first | omega | assumption | rfl | (simp only [vcS] <;> omega) | fail) only [↓ptV_l, ↓vcA, vcB, ↓reduceIte, Nat.reduceEqDiff, Option.bind_some, Option.map_some, vcM, h4z, hr8, s8])
        have h13 : ((wz.alloc (.cells (zc [(8, .int .u32 0)]) 83)).putN wz.heap.size 0 (wcs st.list)).heap[wz.heap.size]? = some (.cells (wcs st.list) 83 (0, 0)) := by
          rw [heap_putN_eq (heap_new _ _ _ rfl), splice_all (by rfl)]
        have hEb : Ext wz ((wz.alloc (.cells (zc [(8, .int .u32 0)]) 83)).putN wz.heap.size 0 (wcs st.list)) := ((Keep.refl _ wz).alloc _).putN _ (by intro hh; exfalso; omega)
        first | refine ⟨wcs_flat _, ?_⟩ | skip
        have h7l := lt_of_heap h7
        generalize World.putN _ _ _ _ = wb at h13 hEb ⊢
        have hp13e : wz.heap.size ≤ wz.heap.size := Nat.le_refl _
        generalize hp13 : wz.heap.size = p13 at h13 h7l hp13e ⊢
        have h7b := hEb.at h7 (fun h => h)
        have hjb := hEz.ext hEb
        (refine W_at c57_ok ?_; refine ⟨_, rfl, ?_⟩; simp (disch := first | omega | assumption | rfl | (simp only [vcS] <;> omega) | fail) only [↓vcA, vcB, ↓reduceIte, Nat.reduceEqDiff])
        have LC : ∀ (k t : Nat) (wc : World), t + k = 64 → wc.heap[p13]? = some (.cells (wcs (rndN t st kL ws).list) 83 (0, 0)) → wc.heap[p7]? = some (.cells (wcs ws) 97 (0, 0)) → Ext wj wc → W Try.prog (Ret fun u w' => u = .agg (bv (outF (runN (nb + 1) iv mm))).toArray ∧ Ext w w') 57 24 [(2, .pointer (some ⟨p2, 0, none⟩)), (3, .pointer (some ⟨p3, 0, none⟩)), (4, .pointer (some ⟨p4, 0, none⟩)), (5, mv), (6, .int .i64 ((64 * j : Nat) : Int)), (7, .pointer (some ⟨p7, 0, none⟩)), (13, .pointer (some ⟨p13, 0, none⟩)), (14, .int .i64 (t : Nat))] wc := by
          intro k
          induction k with
          | zero =>
            intro t wc ht h13 h7 hEc
            obtain rfl : t = 64 := by omega
            (refine W_at c57_ok ?_; refine ⟨_, rfl, ?_⟩; simp (disch := first | omega | assumption | rfl | (simp only [vcS] <;> omega) | fail) only [↓vcA, vcB, ↓reduceIte, Nat.reduceEqDiff, Int.reduceLT, Option.bind_some, vcM])
            (refine W_at c57_ok ?_; refine ⟨_, rfl, ?_⟩; simp (disch := first | omega | assumption | rfl | (simp only [vcS] <;> omega) | fail) only [↓vcA, vcB, ↓reduceIte, Nat.reduceEqDiff])
            (refine W_at c57_ok ?_; refine ⟨_, rfl, ?_⟩; simp (disch := first | omega | assumption | rfl | (simp only [vcS] <;> omega) | fail) only [↓vcA, vcB, ↓reduceIte, Nat.reduceEqDiff])
            generalize rndN 64 st kL ws = v at hstep h13
            have h4c := hEc.at h4 (fun h => h)
            rw [show wcs st.list = addA st v [] 0 from rfl] at h4c
            have LD : ∀ (k i : Nat) (wd : World), i + k = 8 → wd.heap[p4]? = some (.cells (addA st v [] i) 83 (0, 0)) → wd.heap[p13]? = some (.cells (wcs v.list) 83 (0, 0)) → Keep (fun y => y = p4) wj wd → W Try.prog (Ret fun u w' => u = .agg (bv (outF (runN (nb + 1) iv mm))).toArray ∧ Ext w w') 57 16 [(2, .pointer (some ⟨p2, 0, none⟩)), (3, .pointer (some ⟨p3, 0, none⟩)), (4, .pointer (some ⟨p4, 0, none⟩)), (5, mv), (6, .int .i64 ((64 * j : Nat) : Int)), (13, .pointer (some ⟨p13, 0, none⟩)), (17, .int .i64 (i : Nat))] wd := by
              intro k
              induction k with
              | zero =>
                intro i wd hi h4d h13d hK
                obtain rfl : i = 8 := by omega
                rw [addA_8, List.append_nil] at h4d
                (refine W_at c57_ok ?_; refine ⟨_, rfl, ?_⟩; simp (disch := first | omega | assumption | rfl | (simp only [vcS] <;> omega) | fail) only [↓vcA, vcB, ↓reduceIte, Nat.reduceEqDiff, Int.reduceLT, Option.bind_some, vcM])
                (refine W_at c57_ok ?_; refine ⟨_, rfl, ?_⟩; simp (disch := first | omega | assumption | rfl | (simp only [vcS] <;> omega) | fail) only [↓vcA, vcB, ↓reduceIte, Nat.reduceEqDiff])
                (refine W_at c57_ok ?_; refine ⟨_, rfl, ?_⟩; simp (disch := first | omega | assumption | rfl | (simp only [vcS] <;> omega) | fail) only [↓vcA, vcB, ↓reduceIte, Nat.reduceEqDiff, Option.bind_some, hw64])
                (refine W_at c57_ok ?_; refine ⟨_, rfl, ?_⟩; simp (disch := first | omega | assumption | rfl | (simp only [vcS] <;> omega) | fail) only [vcB])
                refine ih (j + 1) wd (by omega) (by rw [hstep]; exact h4d) (hK.at h2 (by omega)) (hK.at h3 (by omega)) (hO.keep hK fun g hg e => ?_) (hE.trans hK fun i hi e => by omega)
                subst e
                obtain ⟨c, hc⟩ := row_type hO hg
                rw [h4] at hc; cases hc
              | succ k ihD =>
                intro i wd hi h4d h13d hK
                have hlt : ((i : Nat) : Int) < 8 := by omega
                have b1 : 0 ≤ ((i : Nat) : Int) ∧ ((i : Nat) : Int) < 8 := by omega
                have hwi : IntKind.i64.wrap (((i : Nat) : Int) + 1) = ((i + 1 : Nat) : Int) := wrap_i64 (by omega) (by omega)
                have e1 := addA_at st v [] i (by omega)
                have e2 := wcs8_at v i (by omega)
                have e3 := addA_set st v [] i (by omega)
                have hsz := addA_size st v [] i (by omega)
                (refine W_at c57_ok ?_; refine ⟨_, rfl, ?_⟩; simp (disch := first | omega | assumption | rfl | (simp only [vcS] <;> omega) | fail) only [↓vcA, vcB, ↓reduceIte, Nat.reduceEqDiff, Option.bind_some, hlt])
                (refine W_at c57_ok ?_; refine ⟨_, rfl, ?_⟩; simp (disch := first | omega | assumption | rfl | (simp only [vcS] <;> omega) | fail) only [↓vcA, vcB, ↓reduceIte, Nat.reduceEqDiff])
                (refine W_at c57_ok ?_; refine ⟨_, rfl, ?_⟩; simp (disch := first | omega | assumption | rfl | (simp only [vcS] <;> omega) | fail) only [↓ptV_l, ↓vcA, vcB, ↓reduceIte, Nat.reduceEqDiff, Option.bind_some, vcM, h4d, h13d, b1, Int.toNat_natCast, Nat.mul_one, e1, e2, U32_add])
                have h4e : wd.drew.heap[p4]? = some (.cells (addA st v [] i) 83 (0, 0)) := h4d
                have h13e : wd.drew.heap[p13]? = some (.cells (wcs v.list) 83 (0, 0)) := h13d
                have hKe := hK.drew
                generalize wd.drew = we at h4e h13e hKe ⊢
                refine ⟨rfl, wr1_of h4e (by rw [hsz]; omega), ?_⟩
                have h4f : (we.setCell ⟨p4, i, none⟩ (U32 (st.list.getD i 0 + v.list.getD i 0))).heap[p4]? = some (.cells (addA st v [] (i + 1)) 83 (0, 0)) := by rw [heap_setCell_eq h4e, e3]
                have kf : Keep (fun x => x = p4) we (we.setCell ⟨p4, i, none⟩ (U32 (st.list.getD i 0 + v.list.getD i 0))) := (Keep.refl _ we).setCell _ fun _ => rfl
                have h13f := kf.at h13e (by omega)
                generalize World.setCell _ _ _ = wf at h4f kf h13f ⊢
                (refine W_at c57_ok ?_; refine ⟨_, rfl, ?_⟩; simp (disch := first | omega | assumption | rfl | (simp only [vcS] <;> omega) | fail) only [↓vcA, vcB, ↓reduceIte, Nat.reduceEqDiff, Option.bind_some, hwi])
                (refine W_at c57_ok ?_; refine ⟨_, rfl, ?_⟩; simp (disch := first | omega | assumption | rfl | (simp only [vcS] <;> omega) | fail) only [vcB])
                exact ihD (i + 1) wf (by omega) h4f h13f (hKe.trans kf fun _ _ h => h)
            exact LD 8 0 wc (by omega) h4c h13 (hEc.mono fun _ h => h.elim)
          | succ k ihC =>
            intro t wc ht h13 h7 hEc
            have hlt : ((t : Nat) : Int) < 64 := by omega
            have b1 : 0 ≤ ((t : Nat) : Int) ∧ ((t : Nat) : Int) < 64 := by omega
            have hwi : IntKind.i64.wrap (((t : Nat) : Int) + 1) = ((t + 1 : Nat) : Int) := wrap_i64 (by omega) (by omega)
            have hkl64 := kL_len
            have hrs := rndN_snoc t st kL ws (by omega) (by omega)
            have hwsi : (wcs ws)[t]? = some (U32 (ws[t]'(by omega))) := by simp [wcs, List.getElem?_eq_getElem (show t < ws.length by omega)]
            have hki : (wcs kL)[t]? = some (U32 (kL[t]'(by omega))) := by simp [wcs, List.getElem?_eq_getElem (show t < kL.length by omega)]
            have h3c := hEc.at h3 (fun h => h)
            generalize ws[t]'(by omega) = xi at hrs hwsi
            generalize kL[t]'(by omega) = ki at hrs hki
            generalize rndN t st kL ws = s at hrs h13
            have v0 : (wcs s.list)[0]? = some (U32 s.a) := rfl
            have v1 : (wcs s.list)[1]? = some (U32 s.b) := rfl
            have v2 : (wcs s.list)[2]? = some (U32 s.c) := rfl
            have v3 : (wcs s.list)[3]? = some (U32 s.d) := rfl
            have v4 : (wcs s.list)[4]? = some (U32 s.e) := rfl
            have v5 : (wcs s.list)[5]? = some (U32 s.f) := rfl
            have v6 : (wcs s.list)[6]? = some (U32 s.g) := rfl
            have v7 : (wcs s.list)[7]? = some (U32 s.h) := rfl
            (refine W_at c57_ok ?_; refine ⟨_, rfl, ?_⟩; simp (disch := first | omega | assumption | rfl | (simp only [vcS] <;> omega) | fail) only [↓vcA, vcB, ↓reduceIte, Nat.reduceEqDiff, Option.bind_some, hlt])
            (refine W_at c57_ok ?_; refine ⟨_, rfl, ?_⟩; simp (disch := first | omega | assumption | rfl | (simp only [vcS] <;> omega) | fail) only [↓vcA, vcB, ↓reduceIte, Nat.reduceEqDiff])
            (refine W_at c57_ok ?_; refine ⟨_, rfl, ?_⟩; simp (disch := first | omega | assumption | rfl | (simp only [vcS] <;> omega) | fail) only [↓vcL1, ↓vcA, vcB, ↓reduceIte, Nat.reduceEqDiff, Int.reduceLE, Int.reduceLT, Int.reduceToNat, Option.bind_some, Option.map_some, vcM, h13, h7, h3c, v4, v5, v6, v7, b1, Int.toNat_natCast, Nat.mul_one, hki, hwsi, U32_and, U32_xor, U32_not])
            have hEd : Ext wc wc.drew := (Keep.refl _ wc).drew
            have h13d := hEd.at h13 (fun h => h)
            have h7d := hEd.at h7 (fun h => h)
            have h3d := hEd.at h3c (fun h => h)
            have hEjd := hEc.ext hEd
            generalize wc.drew = wd at h13d h7d h3d hEjd ⊢
            clear hEd
            refine callV_ret (rrot_ok wd s.e 26 6 (by decide) (by decide) (by decide)) ?_
            rintro _ wq ⟨rfl, hw⟩
            obtain rfl : wd = wq := hw.symm
            simp (disch := first | omega | assumption | rfl | (simp only [vcS] <;> omega) | fail) only [↓vcL2, ptS1_eq, ↓vcA, vcB, ↓reduceIte, Nat.reduceEqDiff, Option.bind_some, Option.map_some, vcM, h13d, h7d, h3d, v4, v5, v6, v7, hki, hwsi]
            refine callV_ret (rrot_ok wd s.e 21 11 (by decide) (by decide) (by decide)) ?_
            rintro _ wq ⟨rfl, hw⟩
            obtain rfl : wd = wq := hw.symm
            simp (disch := first | omega | assumption | rfl | (simp only [vcS] <;> omega) | fail) only [↓vcL1, ptS2_eq, ↓vcA, vcB, ↓reduceIte, Nat.reduceEqDiff, Option.bind_some, Option.map_some, vcM, h13d, h7d, h3d, v4, v5, v6, v7, hki, hwsi, U32_xor]
            refine callV_ret (rrot_ok wd s.e 7 25 (by decide) (by decide) (by decide)) ?_
            rintro _ wq ⟨rfl, hw⟩
            obtain rfl : wd = wq := hw.symm
            simp (disch := first | omega | assumption | rfl | (simp only [vcS] <;> omega) | fail) only [ptS1_eq, ↓vcA, vcB, ↓reduceIte, Nat.reduceEqDiff, Option.bind_some, vcM, h13d, h7d, h3d, v4, v5, v6, v7, hki, hwsi, U32_xor, U32_add]
            first | (simp (disch := first | omega | assumption | rfl | (simp only [vcS] <;> omega) | fail) only [↓vcL2, ptS1_eq, ↓vcA, vcB, ↓vcD, vcE, ↓reduceIte, Nat.reduceEqDiff, Nat.reduceAdd, Nat.reduceMul, Nat.reduceLeDiff, Int.reduceLE, Int.reduceLT, Int.reduceEq, Int.reduceToNat, Int.reduceAdd, Int.reduceSub, Int.reduceMul, Int.reduceNeg, reduceCtorEq, Option.bind_some, Option.map_some, List.length_cons, List.length_nil, vcM, List.getElem?_toArray, List.getElem?_cons_zero, List.getElem?_cons_succ, h13d, h7d, h3d, v4, v5, v6, v7, hki, hwsi, U32_xor, U32_add]) | skip
            have et : t1F s ki xi = s.h + (rotF 6 s.e ^^^ rotF 11 s.e ^^^ rotF 25 s.e) + (s.e &&& s.f ^^^ ~~~s.e &&& s.g) + ki + xi := rfl
            rw [← et]
            have eu : t2F s = (rotF 2 s.a ^^^ rotF 13 s.a ^^^ rotF 22 s.a) + (s.a &&& s.b ^^^ s.a &&& s.c ^^^ s.b &&& s.c) := rfl
            (refine W_at c57_ok ?_; refine ⟨_, rfl, ?_⟩; simp (disch := first | omega | assumption | rfl | (simp only [vcS] <;> omega) | fail) only [↓vcL1, ↓vcA, vcB, ↓reduceIte, Nat.reduceEqDiff, Nat.reduceMul, Int.reduceLE, Int.reduceLT, Int.reduceToNat, Option.bind_some, Option.map_some, vcM, h13d, v0, v1, v2, U32_and, U32_xor])
            have hEd2 : Ext wd wd.drew := (Keep.refl _ wd).drew
            have h13e := hEd2.at h13d (fun h => h)
            have h7e := hEd2.at h7d (fun h => h)
            have hEje := hEjd.ext hEd2
            generalize wd.drew = we at h13e h7e hEje ⊢
            clear hEd2
            refine callV_ret (rrot_ok we s.a 30 2 (by decide) (by decide) (by decide)) ?_
            rintro _ wq ⟨rfl, hw⟩
            obtain rfl : we = wq := hw.symm
            simp (disch := first | omega | assumption | rfl | (simp only [vcS] <;> omega) | fail) only [↓vcL2, ptS1_eq, ↓vcA, vcB, ↓reduceIte, Nat.reduceEqDiff, Option.bind_some, Option.map_some, vcM, h13e, v0, v1, v2]
            refine callV_ret (rrot_ok we s.a 19 13 (by decide) (by decide) (by decide)) ?_
            rintro _ wq ⟨rfl, hw⟩
            obtain rfl : we = wq := hw.symm
            simp (disch := first | omega | assumption | rfl | (simp only [vcS] <;> omega) | fail) only [↓vcL1, ptS2_eq, ↓vcA, vcB, ↓reduceIte, Nat.reduceEqDiff, Option.bind_some, Option.map_some, vcM, h13e, v0, v1, v2, U32_xor]
            refine callV_ret (rrot_ok we s.a 10 22 (by decide) (by decide) (by decide)) ?_
            rintro _ wq ⟨rfl, hw⟩
            obtain rfl : we = wq := hw.symm
            simp (disch := first | omega | assumption | rfl | (simp only [vcS] <;> omega) | fail) only [ptS1_eq, ↓vcA, vcB, ↓reduceIte, Nat.reduceEqDiff, Option.bind_some, vcM, h13e, v0, v1, v2, U32_xor, U32_add]
            rw [← eu]
            unfold rnd at hrs
            generalize t1F s ki xi = tt at hrs ⊢
            generalize t2F s = uu at hrs ⊢
            (refine W_at c57_ok ?_; refine ⟨_, rfl, ?_⟩; simp (disch := first | omega | assumption | rfl | (simp only [vcS] <;> omega) | fail) only [↓ptV_l, ↓vcA, vcB, ↓reduceIte, Nat.reduceEqDiff, Nat.reduceMul, Int.reduceLE, Int.reduceLT, Int.reduceToNat, Option.bind_some, Option.map_some, vcM, h13e, v0, v1, v2, v3, v4, v5, v6, U32_add, U32_cells])
            have e9 : (#[U32 (tt + uu)] ++ (#[U32 s.a] ++ (#[U32 s.b] ++ (#[U32 s.c] ++ (#[U32 (s.d + tt)] ++ (#[U32 s.e] ++ #[U32 s.f, U32 s.g]))))) : Array Value) = wcs (rndN (t + 1) st kL ws).list := by rw [hrs]; exact wcs8_bld _ _ _ _ _ _ _ _
            rw [e9]
            have hsw : (wcs s.list).size = 8 := wcs_size _
            refine ⟨wcs8_size _, wcs_flat _, by rw [hsw]; exact Nat.le_refl _, ?_⟩
            have h13f : (we.putN p13 0 (wcs (rndN (t + 1) st kL ws).list)).heap[p13]? = some (.cells (wcs (rndN (t + 1) st kL ws).list) 83 (0, 0)) := by
              rw [heap_putN_eq h13e, splice_all (by rw [wcs8_size, wcs8_size])]
            have kf : Keep (fun x => x = p13) we (we.putN p13 0 (wcs (rndN (t + 1) st kL ws).list)) := (Keep.refl _ we).putN _ fun _ => rfl
            generalize World.putN _ _ _ _ = wf at h13f kf ⊢
            have h7f := kf.at h7e (by omega)
            (refine W_at c57_ok ?_; refine ⟨_, rfl, ?_⟩; simp (disch := first | omega | assumption | rfl | (simp only [vcS] <;> omega) | fail) only [↓vcA, vcB, ↓reduceIte, Nat.reduceEqDiff, Option.bind_some, hwi])
            (refine W_at c57_ok ?_; refine ⟨_, rfl, ?_⟩; simp (disch := first | omega | assumption | rfl | (simp only [vcS] <;> omega) | fail) only [vcB])
            exact ihC (t + 1) wf (by omega) h13f h7f (hEje.trans kf fun i hi e => by omega)
        exact LC 64 0 wb (by omega) h13 h7b hjb
      have LB : ∀ (k t : Nat) (wz : World), t + k = 64 → 16 ≤ t → wz.heap[p7]? = some (.cells (arrW ws t) 97 (0, 0)) → Ext wj wz → W Try.prog (Ret fun u w' => u = .agg (bv (outF (runN (nb + 1) iv mm))).toArray ∧ Ext w w') 57 33 [(2, .pointer (some ⟨p2, 0, none⟩)), (3, .pointer (some ⟨p3, 0, none⟩)), (4, .pointer (some ⟨p4, 0, none⟩)), (5, mv), (6, .int .i64 ((64 * j : Nat) : Int)), (7, .pointer (some ⟨p7, 0, none⟩)), (10, .int .i64 (t : Nat))] wz := by
        intro k
        induction k with
        | zero =>
          intro t wz ht h16 h7 hEz
          obtain rfl : t = 64 := by omega
          rw [arrW_all ws hws] at h7
          (refine W_at c57_ok ?_; refine ⟨_, rfl, ?_⟩; simp (disch := first | omega | assumption | rfl | (simp only [vcS] <;> omega) | fail) only [↓vcA, vcB, ↓reduceIte, Nat.reduceEqDiff, Int.reduceLT, Option.bind_some, vcM])
          (refine W_at c57_ok ?_; refine ⟨_, rfl, ?_⟩; simp (disch := first | omega | assumption | rfl | (simp only [vcS] <;> omega) | fail) only [↓vcA, vcB, ↓reduceIte, Nat.reduceEqDiff])
          exact restB wz _ h7 hEz
        | succ k ihB =>
          intro t wz ht h16 h7 hEz
          have hlt : ((t : Nat) : Int) < 64 := by omega
          have b1 : 0 ≤ ((t : Nat) : Int) ∧ ((t : Nat) : Int) < 64 := by omega
          have hwi : IntKind.i64.wrap (((t : Nat) : Int) + 1) = ((t + 1 : Nat) : Int) := wrap_i64 (by omega) (by omega)
          have hy := ws_rec blk t h16 (by omega)
          rw [hwsd] at hy
          have hnx : nxtW (ws.take t) = sg1 (ws.getD (t - 2) 0) + ws.getD (t - 7) 0 + sg0 (ws.getD (t - 15) 0) + ws.getD (t - 16) 0 := by
            have hlt : (ws.take t).length = t := by rw [List.length_take]; omega
            have hg : ∀ k, k < t → (ws.take t).getD k 0 = ws.getD k 0 := fun k hk => by simp [List.getD, List.getElem?_take_of_lt hk]
            unfold nxtW
            rw [hlt, hg _ (by omega), hg _ (by omega), hg _ (by omega), hg _ (by omega)]
            ac_rfl
          rw [hnx] at hy
          have s15 : IntKind.i64.wrap (((t : Nat) : Int) - 15) = ((t - 15 : Nat) : Int) := by rw [wrap_i64 (by omega) (by omega)]; omega
          have s2 : IntKind.i64.wrap (((t : Nat) : Int) - 2) = ((t - 2 : Nat) : Int) := by rw [wrap_i64 (by omega) (by omega)]; omega
          have s16 : IntKind.i64.wrap (((t : Nat) : Int) - 16) = ((t - 16 : Nat) : Int) := by rw [wrap_i64 (by omega) (by omega)]; omega
          have s7 : IntKind.i64.wrap (((t : Nat) : Int) - 7) = ((t - 7 : Nat) : Int) := by rw [wrap_i64 (by omega) (by omega)]; omega
          have i15 : 0 ≤ ((t - 15 : Nat) : Int) ∧ ((t - 15 : Nat) : Int) < 64 := by omega
          have i2 : 0 ≤ ((t - 2 : Nat) : Int) ∧ ((t - 2 : Nat) : Int) < 64 := by omega
          have i16 : 0 ≤ ((t - 16 : Nat) : Int) ∧ ((t - 16 : Nat) : Int) < 64 := by omega
          have i7 : 0 ≤ ((t - 7 : Nat) : Int) ∧ ((t - 7 : Nat) : Int) < 64 := by omega
          have a15 := arrW_at ws t (t - 15) hws (by omega) (by omega)
          have a2 := arrW_at ws t (t - 2) hws (by omega) (by omega)
          have a16 := arrW_at ws t (t - 16) hws (by omega) (by omega)
          have a7 := arrW_at ws t (t - 7) hws (by omega) (by omega)
          have hsz := arrW_size ws t hws (by omega)
          generalize ws.getD (t - 15) 0 = x15 at hy a15
          generalize ws.getD (t - 2) 0 = x2 at hy a2
          generalize ws.getD (t - 16) 0 = x16 at hy a16
          generalize ws.getD (t - 7) 0 = x7 at hy a7
          (refine W_at c57_ok ?_; refine ⟨_, rfl, ?_⟩; simp (disch := first | omega | assumption | rfl | (simp only [vcS] <;> omega) | fail) only [↓vcA, vcB, ↓reduceIte, Nat.reduceEqDiff, Option.bind_some, hlt])
          (refine W_at c57_ok ?_; refine ⟨_, rfl, ?_⟩; simp (disch := first | omega | assumption | rfl | (simp only [vcS] <;> omega) | fail) only [↓vcA, vcB, ↓reduceIte, Nat.reduceEqDiff])
          (refine W_at c57_ok ?_; refine ⟨_, rfl, ?_⟩; simp (disch := first | omega | assumption | rfl | (simp only [vcS] <;> omega) | fail) only [↓vcL1, ↓vcA, vcB, ↓reduceIte, Nat.reduceEqDiff, Option.bind_some, Option.map_some, vcM, h7, s15, i15, Int.toNat_natCast, Nat.mul_one, a15, U32_shr3])
          have hEd : Ext wj wz.drew := hEz.drew
          have h7d : wz.drew.heap[p7]? = some (.cells (arrW ws t) 97 (0, 0)) := h7
          generalize wz.drew = wd at hEd h7d ⊢
          refine callV_ret (rrot_ok wd x15 25 7 (by decide) (by decide) (by decide)) ?_
          rintro _ wq ⟨rfl, hw⟩
          obtain rfl : wd = wq := hw.symm
          simp (disch := first | omega | assumption | rfl | (simp only [vcS] <;> omega) | fail) only [↓vcL2, ptS1_eq, ↓vcA, vcB, ↓reduceIte, Nat.reduceEqDiff, Option.bind_some, Option.map_some, vcM, h7d, a15]
          refine callV_ret (rrot_ok wd x15 14 18 (by decide) (by decide) (by decide)) ?_
          rintro _ wq ⟨rfl, hw⟩
          obtain rfl : wd = wq := hw.symm
          simp (disch := first | omega | assumption | rfl | (simp only [vcS] <;> omega) | fail) only [ptS2_eq, ↓vcA, vcB, ↓reduceIte, Nat.reduceEqDiff, Option.bind_some, vcM, h7d, a15, U32_xor]
          first | (simp (disch := first | omega | assumption | rfl | (simp only [vcS] <;> omega) | fail) only [↓vcL1, ptS2_eq, ↓vcA, vcB, ↓vcD, vcE, ↓reduceIte, Nat.reduceEqDiff, Nat.reduceAdd, Nat.reduceMul, Nat.reduceLeDiff, Int.reduceLE, Int.reduceLT, Int.reduceEq, Int.reduceToNat, Int.reduceAdd, Int.reduceSub, Int.reduceMul, Int.reduceNeg, reduceCtorEq, Option.bind_some, Option.map_some, List.length_cons, List.length_nil, vcM, List.getElem?_toArray, List.getElem?_cons_zero, List.getElem?_cons_succ, h7d, a15, U32_xor]) | skip
          have e0 : sg0 x15 = rotF 7 x15 ^^^ rotF 18 x15 ^^^ x15 >>> 3 := rfl
          rw [← e0]
          (refine W_at c57_ok ?_; refine ⟨_, rfl, ?_⟩; simp (disch := first | omega | assumption | rfl | (simp only [vcS] <;> omega) | fail) only [↓vcL1, ↓vcA, vcB, ↓reduceIte, Nat.reduceEqDiff, Option.bind_some, Option.map_some, vcM, h7d, s2, i2, Int.toNat_natCast, Nat.mul_one, a2, U32_shr10])
          have hEe : Ext wj wd.drew := hEd.drew
          have h7e : wd.drew.heap[p7]? = some (.cells (arrW ws t) 97 (0, 0)) := h7d
          generalize wd.drew = we at hEe h7e ⊢
          refine callV_ret (rrot_ok we x2 15 17 (by decide) (by decide) (by decide)) ?_
          rintro _ wq ⟨rfl, hw⟩
          obtain rfl : we = wq := hw.symm
          simp (disch := first | omega | assumption | rfl | (simp only [vcS] <;> omega) | fail) only [↓vcL2, ptS1_eq, ↓vcA, vcB, ↓reduceIte, Nat.reduceEqDiff, Option.bind_some, Option.map_some, vcM, h7e, a2]
          refine callV_ret (rrot_ok we x2 13 19 (by decide) (by decide) (by decide)) ?_
          rintro _ wq ⟨rfl, hw⟩
          obtain rfl : we = wq := hw.symm
          simp (disch := first | omega | assumption | rfl | (simp only [vcS] <;> omega) | fail) only [ptS2_eq, ↓vcA, vcB, ↓reduceIte, Nat.reduceEqDiff, Option.bind_some, vcM, h7e, a2, U32_xor]
          first | (simp (disch := first | omega | assumption | rfl | (simp only [vcS] <;> omega) | fail) only [↓vcL1, ptS2_eq, ↓vcA, vcB, ↓vcD, vcE, ↓reduceIte, Nat.reduceEqDiff, Nat.reduceAdd, Nat.reduceMul, Nat.reduceLeDiff, Int.reduceLE, Int.reduceLT, Int.reduceEq, Int.reduceToNat, Int.reduceAdd, Int.reduceSub, Int.reduceMul, Int.reduceNeg, reduceCtorEq, Option.bind_some, Option.map_some, List.length_cons, List.length_nil, vcM, List.getElem?_toArray, List.getElem?_cons_zero, List.getElem?_cons_succ, h7e, a2, U32_xor]) | skip
          have e1 : sg1 x2 = rotF 17 x2 ^^^ rotF 19 x2 ^^^ x2 >>> 10 := rfl
          rw [← e1]
          (refine W_at c57_ok ?_; refine ⟨_, rfl, ?_⟩; simp (disch := first | omega | assumption | rfl | (simp only [vcS] <;> omega) | fail) only [↓ptV_l, ↓vcA, vcB, ↓reduceIte, Nat.reduceEqDiff, Option.bind_some, vcM, h7e, s7, s16, i7, i16, b1, Int.toNat_natCast, Nat.mul_one, a7, a16, U32_add])
          have hEf : Ext wj we.drew := hEe.drew
          have h7f : we.drew.heap[p7]? = some (.cells (arrW ws t) 97 (0, 0)) := h7e
          generalize we.drew = wf at hEf h7f ⊢
          refine ⟨rfl, wr1_of h7f (by rw [hsz]; omega), ?_⟩
          have h7g : (wf.setCell ⟨p7, t, none⟩ (U32 (sg1 x2 + x7 + sg0 x15 + x16))).heap[p7]? = some (.cells (arrW ws (t + 1)) 97 (0, 0)) := by rw [heap_setCell_eq h7f, arrW_set ws t _ hws (by omega) hy]
          have hEg : Ext wj (wf.setCell ⟨p7, t, none⟩ (U32 (sg1 x2 + x7 + sg0 x15 + x16))) := hEf.trans ((Keep.refl _ wf).setCell (S := fun x => x = p7) _ fun _ => rfl) fun x hx e => by omega
          generalize World.setCell _ _ _ = wg at h7g hEg ⊢
          (refine W_at c57_ok ?_; refine ⟨_, rfl, ?_⟩; simp (disch := first | omega | assumption | rfl | (simp only [vcS] <;> omega) | fail) only [↓vcA, vcB, ↓reduceIte, Nat.reduceEqDiff, Option.bind_some, hwi])
          (refine W_at c57_ok ?_; refine ⟨_, rfl, ?_⟩; simp (disch := first | omega | assumption | rfl | (simp only [vcS] <;> omega) | fail) only [vcB])
          exact ihB (t + 1) wg (by omega) (by omega) h7g hEg
      have LA : ∀ (k t : Nat) (wz : World), t + k = 16 → wz.heap[p7]? = some (.cells (arrW ws t) 97 (0, 0)) → Ext wj wz → W Try.prog (Ret fun u w' => u = .agg (bv (outF (runN (nb + 1) iv mm))).toArray ∧ Ext w w') 57 44 [(2, .pointer (some ⟨p2, 0, none⟩)), (3, .pointer (some ⟨p3, 0, none⟩)), (4, .pointer (some ⟨p4, 0, none⟩)), (5, mv), (6, .int .i64 ((64 * j : Nat) : Int)), (7, .pointer (some ⟨p7, 0, none⟩)), (8, .int .i64 (t : Nat))] wz := by
        intro k
        induction k with
        | zero =>
          intro t wz ht h7 hEz
          obtain rfl : t = 16 := by omega
          (refine W_at c57_ok ?_; refine ⟨_, rfl, ?_⟩; simp (disch := first | omega | assumption | rfl | (simp only [vcS] <;> omega) | fail) only [↓vcA, vcB, ↓reduceIte, Nat.reduceEqDiff, Int.reduceLT, Option.bind_some, vcM])
          (refine W_at c57_ok ?_; refine ⟨_, rfl, ?_⟩; simp (disch := first | omega | assumption | rfl | (simp only [vcS] <;> omega) | fail) only [↓vcA, vcB, ↓reduceIte, Nat.reduceEqDiff])
          (refine W_at c57_ok ?_; refine ⟨_, rfl, ?_⟩; simp (disch := first | omega | assumption | rfl | (simp only [vcS] <;> omega) | fail) only [↓vcA, vcB, ↓reduceIte, Nat.reduceEqDiff])
          exact LB 48 16 wz (by omega) (by omega) h7 hEz
        | succ k ihA =>
          intro t wz ht h7 hEz
          have hlt : ((t : Nat) : Int) < 16 := by omega
          have b1 : 0 ≤ ((t : Nat) : Int) ∧ ((t : Nat) : Int) < 64 := by omega
          have hwt : IntKind.i64.wrap (((t : Nat) : Int) + 1) = ((t + 1 : Nat) : Int) := wrap_i64 (by omega) (by omega)
          have hw4 : IntKind.i64.wrap (4 * ((t : Nat) : Int)) = ((4 * t : Nat) : Int) := by rw [wrap_i64 (by omega) (by omega)]; omega
          have hwa4 : IntKind.i64.wrap (((64 * j : Nat) : Int) + ((4 * t : Nat) : Int)) = ((64 * j + 4 * t : Nat) : Int) := by rw [wrap_i64 (by omega) (by omega)]; omega
          have hdone : ws[t]? = some (accF blk t 4) := by
            have h := ws_16 blk t (by omega)
            rw [hwsd] at h
            rw [h, acc4 blk t fun i hi => ?_]
            have hio : 4 * t + i < blk.length := by omega
            have e2 : blk.getD (4 * t + i) 0 = blk[4 * t + i] := by simp [List.getD, List.getElem?_eq_getElem hio]
            have := hbb _ (List.getElem_mem hio)
            rw [e2]; omega
          have LI : ∀ (m i : Nat) (wz : World), i + m = 4 → wz.heap[p7]? = some (.cells (arrP ws t (accF blk t i)) 97 (0, 0)) → Ext wj wz → W Try.prog (Ret fun u w' => u = .agg (bv (outF (runN (nb + 1) iv mm))).toArray ∧ Ext w w') 57 41 [(2, .pointer (some ⟨p2, 0, none⟩)), (3, .pointer (some ⟨p3, 0, none⟩)), (4, .pointer (some ⟨p4, 0, none⟩)), (5, mv), (6, .int .i64 ((64 * j : Nat) : Int)), (7, .pointer (some ⟨p7, 0, none⟩)), (8, .int .i64 (t : Nat)), (9, .int .i64 (i : Nat))] wz := by
            intro m
            induction m with
            | zero =>
              intro i wz hi h7 hEz
              obtain rfl : i = 4 := by omega
              rw [arrP_done ws t _ hws (by omega) hdone] at h7
              (refine W_at c57_ok ?_; refine ⟨_, rfl, ?_⟩; simp (disch := first | omega | assumption | rfl | (simp only [vcS] <;> omega) | fail) only [↓vcA, vcB, ↓reduceIte, Nat.reduceEqDiff, Int.reduceLT, Option.bind_some, vcM])
              (refine W_at c57_ok ?_; refine ⟨_, rfl, ?_⟩; simp (disch := first | omega | assumption | rfl | (simp only [vcS] <;> omega) | fail) only [↓vcA, vcB, ↓reduceIte, Nat.reduceEqDiff])
              (refine W_at c57_ok ?_; refine ⟨_, rfl, ?_⟩; simp (disch := first | omega | assumption | rfl | (simp only [vcS] <;> omega) | fail) only [↓vcA, vcB, ↓reduceIte, Nat.reduceEqDiff, Option.bind_some, hwt])
              (refine W_at c57_ok ?_; refine ⟨_, rfl, ?_⟩; simp (disch := first | omega | assumption | rfl | (simp only [vcS] <;> omega) | fail) only [vcB])
              exact ihA (t + 1) wz (by omega) h7 hEz
            | succ m ihI =>
              intro i wz hi h7 hEz
              have hlt4 : ((i : Nat) : Int) < 4 := by omega
              have hwi : IntKind.i64.wrap (((i : Nat) : Int) + 1) = ((i + 1 : Nat) : Int) := wrap_i64 (by omega) (by omega)
              have hwb : IntKind.i64.wrap (((64 * j + 4 * t : Nat) : Int) + ((i : Nat) : Int)) = ((64 * j + 4 * t + i : Nat) : Int) := by rw [wrap_i64 (by omega) (by omega)]; omega
              obtain ⟨bb, oo, cc, ex, hc, hrng⟩ := rd_byte (hO.ext hEz).rd hmb (i := 64 * j + 4 * t + i) (by omega)
              rw [show 64 * j + 4 * t + i = 64 * j + (4 * t + i) by omega, ← hbat (4 * t + i) (by omega)] at hc hrng
              have bi : 0 ≤ ((64 * j + (4 * t + i) : Nat) : Int) ∧ ((64 * j + (4 * t + i) : Nat) : Int) < (mm.length : Nat) := by omega
              have hv := b32_of hrng
              have hat := arrP_at ws t (accF blk t i) hws (by omega)
              have hacc : accF blk t i * 256#32 + b32 (blk.getD (4 * t + i) 0) = accF blk t (i + 1) := rfl
              have hsz := arrP_size ws t (accF blk t i) hws (by omega)
              rw [show 64 * j + 4 * t + i = 64 * j + (4 * t + i) by omega] at hwb
              subst ex
              (refine W_at c57_ok ?_; refine ⟨_, rfl, ?_⟩; simp (disch := first | omega | assumption | rfl | (simp only [vcS] <;> omega) | fail) only [↓vcA, vcB, ↓reduceIte, Nat.reduceEqDiff, Option.bind_some, hlt4])
              (refine W_at c57_ok ?_; refine ⟨_, rfl, ?_⟩; simp (disch := first | omega | assumption | rfl | (simp only [vcS] <;> omega) | fail) only [↓vcA, vcB, ↓reduceIte, Nat.reduceEqDiff])
              (refine W_at c57_ok ?_; refine ⟨_, rfl, ?_⟩; simp (disch := first | omega | assumption | rfl | (simp only [vcS] <;> omega) | fail) only [↓ptV_l, ↓vcA, vcB, ↓reduceIte, Nat.reduceEqDiff, Option.bind_some, vcM, h7, b1, hw4, hwa4, hwb, bi, Int.toNat_natCast, Nat.mul_one, hat, U32_mulC, hc, hv, U32_add])
              have hEd : Ext wj wz.drew := hEz.drew
              have h7d : wz.drew.heap[p7]? = some (.cells (arrP ws t (accF blk t i)) 97 (0, 0)) := h7
              generalize wz.drew = wd at hEd h7d ⊢
              refine ⟨rfl, wr1_of h7d (by rw [hsz]; omega), ?_⟩
              rw [hacc]
              have h7g : (wd.setCell ⟨p7, t, none⟩ (U32 (accF blk t (i + 1)))).heap[p7]? = some (.cells (arrP ws t (accF blk t (i + 1))) 97 (0, 0)) := by rw [heap_setCell_eq h7d, arrP_set]
              have hEg : Ext wj (wd.setCell ⟨p7, t, none⟩ (U32 (accF blk t (i + 1)))) := hEd.trans ((Keep.refl _ wd).setCell (S := fun x => x = p7) _ fun _ => rfl) fun x hx e => by omega
              generalize World.setCell _ _ _ = wg at h7g hEg ⊢
              (refine W_at c57_ok ?_; refine ⟨_, rfl, ?_⟩; simp (disch := first | omega | assumption | rfl | (simp only [vcS] <;> omega) | fail) only [↓vcA, vcB, ↓reduceIte, Nat.reduceEqDiff, Option.bind_some, hwi])
              (refine W_at c57_ok ?_; refine ⟨_, rfl, ?_⟩; simp (disch := first | omega | assumption | rfl | (simp only [vcS] <;> omega) | fail) only [vcB])
              exact ihI (i + 1) wg (by omega) h7g hEg
          (refine W_at c57_ok ?_; refine ⟨_, rfl, ?_⟩; simp (disch := first | omega | assumption | rfl | (simp only [vcS] <;> omega) | fail) only [↓vcA, vcB, ↓reduceIte, Nat.reduceEqDiff, Option.bind_some, hlt])
          (refine W_at c57_ok ?_; refine ⟨_, rfl, ?_⟩; simp (disch := first | omega | assumption | rfl | (simp only [vcS] <;> omega) | fail) only [↓vcA, vcB, ↓reduceIte, Nat.reduceEqDiff])
          (refine W_at c57_ok ?_; refine ⟨_, rfl, ?_⟩; simp (disch := first | omega | assumption | rfl | (simp only [vcS] <;> omega) | fail) only [↓vcA, vcB, ↓reduceIte, Nat.reduceEqDiff])
          exact LI 4 0 wz (by omega) (by rw [show accF blk t 0 = 0 from rfl, arrP_0 ws t hws (by omega)]; exact h7) hEz
      (refine W_at c57_ok ?_; refine ⟨_, rfl, ?_⟩; simp (disch := first | omega | assumption | rfl | (simp only [vcS] <;> omega) | fail) only [↓vcA, vcB, ↓reduceIte, Nat.reduceEqDiff])
      exact LA 16 0 wa (by omega) h7 hEa
  exact L (nb + 1) 0 w4 (by omega) hp44 hp24 hp34 hm4 hEw4
end Go.Proofs
namespace Go.Proofs
open Go.Vc
set_option maxRecDepth 10000

set_option maxHeartbeats 800000 in
theorem rdouble_ok (w : World) (x : Value) (bs : List Int) (hx : Rd w x bs) (hb : byt bs) (hl : bs.length ≤ 100000000) :
    Calls Try.prog 32 #[x] w (Ret fun u w' => u = .agg (bv (dblF bs)).toArray ∧ Ext w w') := by
  refine calls_of_cfg c32_ok (Nat.le_of_ble_eq_true rfl) ?_
  simp only [argE_nil, argE_cons, Nat.zero_add]
  (refine W_at c32_ok ?_; refine ⟨_, rfl, ?_⟩; simp (disch := first | omega | assumption | rfl | (simp only [vcS] <;> omega) | fail) only [↓ptV_l, ↓vcA, vcB, ↓reduceIte, reduceCtorEq])
  have hE0 : Ext w (w.alloc (.cells (zc [(32, .int .u8 0)]) 35)) := (Keep.refl _ w).alloc _
  have hp2 : (w.alloc (.cells (zc [(32, .int .u8 0)]) 35)).heap[w.heap.size]? = some (.cells (bv (List.replicate 32 0)).toArray 35 (0, 0)) := heap_new _ _ _ rfl
  generalize World.alloc _ _ = w1 at hE0 hp2 ⊢
  generalize hp2e : w.heap.size = p2 at hp2 ⊢
  (refine W_at c32_ok ?_; refine ⟨_, rfl, ?_⟩; simp (disch := first | omega | assumption | rfl | (simp only [vcS] <;> omega) | fail) only [↓ptV_l, ↓vcA, vcB, ↓reduceIte, Nat.reduceEqDiff, reduceCtorEq, Option.bind_some, Option.map_some])
  refine callV_ret (rsum_ok w1 x bs (hx.ext hE0) hb hl) ?_
  rintro _ w2 ⟨rfl, hE2⟩
  have s32 : (bv (shaF bs)).toArray.size = 32 := by rw [bva_size, shaF_len]
  have hp22 := hE2.at hp2 (fun h => h)
  simp (disch := first | omega | assumption | rfl | (simp only [vcS] <;> omega) | fail) only [↓vcA, vcB, vcM, s32]
  have hE3 : Ext w2 ((w2.alloc (.cells (zc [(32, .int .u8 0)]) 35)).putN w2.heap.size 0 (bv (shaF bs)).toArray) := ((Keep.refl _ w2).alloc _).putN _ (by intro hh; exfalso; omega)
  have hp3 : ((w2.alloc (.cells (zc [(32, .int .u8 0)]) 35)).putN w2.heap.size 0 (bv (shaF bs)).toArray).heap[w2.heap.size]? = some (.cells (bv (shaF bs)).toArray 35 (0, 0)) := by
    rw [heap_putN_eq (heap_new _ _ _ rfl), z32, splice_all (by rw [bva_size, bva_size, shaF_len]; rfl)]
  refine ⟨bv_flat _, ?_⟩
  have hp2l := lt_of_heap hp22
  generalize World.putN _ _ _ _ = w3 at hE3 hp3 ⊢
  generalize w2.heap.size = p3 at hp3 hp2l ⊢
  have hrd := arr_rd hp3 (by rw [shaF_len]; decide)
  rw [shaF_len] at hrd
  have hp23 := hE3.at hp22 (fun h => h)
  (refine W_at c32_ok ?_; refine ⟨_, rfl, ?_⟩; simp (disch := first | omega | assumption | rfl | (simp only [vcS] <;> omega) | fail) only [↓ptV_l, ↓vcA, vcB, ↓reduceIte, Nat.reduceEqDiff, Option.bind_some, Option.map_some, Nat.sub_zero])
  refine callV_ret (rsum_ok w3 _ (shaF bs) hrd (shaF_byt bs) (by rw [shaF_len]; omega)) ?_
  rintro _ w4 ⟨rfl, hE4⟩
  have s322 : (bv (shaF (shaF bs))).toArray.size = 32 := by rw [bva_size, shaF_len]
  have hp24 := hE4.at hp23 (fun h => h)
  have hok : okO (some (.cells (bv (List.replicate 32 0)).toArray 35 (0, 0))) 0 32 = True := by simp only [okO, bva_size, List.length_replicate]; simp
  simp (disch := first | omega | assumption | rfl | (simp only [vcS] <;> omega) | fail) only [↓vcA, vcB, vcM, s322, hp24, hok]
  have k5 : Keep (fun y => y = p2) w4 (w4.putN p2 0 (bv (shaF (shaF bs))).toArray) := (Keep.refl _ w4).putN _ fun _ => rfl
  have hp25 : (w4.putN p2 0 (bv (shaF (shaF bs))).toArray).heap[p2]? = some (.cells (bv (shaF (shaF bs))).toArray 35 (0, 0)) := by
    rw [heap_putN_eq hp24, splice_all (by rw [bva_size, bva_size, shaF_len]; rfl)]
  refine ⟨bv_flat _, ?_⟩
  generalize World.putN _ _ _ _ = w5 at k5 hp25 ⊢
  have hr32 : rdO (some (.cells (bv (shaF (shaF bs))).toArray 35 (0, 0))) 0 32 = some (bv (shaF (shaF bs))).toArray := rdO_all _ _ _ _ s322
  (refine W_at c32_ok ?_; refine ⟨_, rfl, ?_⟩; simp (disch := first | omega | assumption | rfl | (simp only [vcS] <;> omega) | fail) only [↓vcA, vcB, ↓reduceIte, Option.bind_some, Option.map_some, vcM, Ret_returned, hp25, hr32])
  exact ⟨rfl, (((hE0.ext hE2).ext hE3).ext hE4).trans k5 fun i hi e => by omega⟩
end Go.Proofs
namespace Go.Proofs
open Go.Vc
set_option maxRecDepth 10000

theorem look_mem : ∀ {e : Env} {t : Nat} {v : Value}, Vc.look e t = some v → (t, v) ∈ e
  | [], _, _, h => by simp [Vc.look] at h
  | (s, u) :: e, t, v, h => by
    simp only [Vc.look] at h
    split at h
    · rename_i hs; subst hs; cases h; exact List.mem_cons_self
    · exact List.mem_cons_of_mem _ (look_mem h)
/-- What is known of more slots is known of fewer. -/
theorem W_env {P : Program} {R : Ending → World → Prop} {f : FuncId} {l : Nat} {e e' : Env} {w : World} (h : W P R f l e w) (hs : ∀ p ∈ e, Vc.look e' p.1 = some p.2) : W P R f l e' w :=
  fun n en E hc a ha => h n en E hc a ⟨ha.size, ha.nodef, fun t v hv => ha.val t v (hs _ (look_mem hv))⟩
theorem in_cells {w0 wz : World} {bb o i : Nat} {x : TxI} {sv wv : Value} (hx : x.prev.length = 32) (hr0 : rdO w0.heap[bb]? (o + i * 36) 36 = some (iC x sv wv)) (hz : Ext w0 wz) :
    rdO wz.heap[bb]? (o + i * 36) 33 = some (pC x.prev x.idx) ∧ cellO wz.heap[bb]? (o + i * 36 + 34) = some (.int .u32 x.seq) ∧ cellO wz.heap[bb]? (o + i * 36 + 33) = some sv ∧ cellO wz.heap[bb]? (o + i * 36 + 35) = some wv := by
  have hr := rdO_ext' hz hr0
  have s36 := iC_size hx sv wv
  refine ⟨?_, by rw [rdO_cell hr (by omega), iC_34 hx], by rw [rdO_cell hr (by omega), iC_33 hx], by rw [rdO_cell hr (by omega), iC_35 hx]⟩
  cases hg : wz.heap[bb]? with
  | none => rw [hg] at hr; cases hr
  | some ob =>
    rw [hg] at hr
    cases ob with
    | cells cur T fz =>
      simp only [rdO] at hr ⊢
      split at hr
      · rw [if_pos (by omega)]
        have e := Option.some.inj hr
        have e2 : cur.extract (o + i * 36) (o + i * 36 + 33) = (cur.extract (o + i * 36) (o + i * 36 + 36)).extract 0 33 := by
          rw [Array.extract_extract]; congr 1; omega
        rw [e2, e, iC_pC hx]
      · cases hr
    | _ => cases hr
set_option maxHeartbeats 6400000 in
theorem rw_6 (w wR w1 : World) (v1 : Value) (p5 p10 p17 p18 p19 n : Nat) (t : TxV) (iv ov sx : Value) (script : List Int) (value kind : Int) (P Q M : List Int) (hE0 : Ext w wR) (l10 : w.heap.size ≤ p10) (h5 : wR.heap[p5]? = some (.cells (txC t iv ov) 26 (0, 0))) (h10 : wR.heap[p10]? = some (.cells (bv zeroD).toArray 35 (0, 0)))
    (h17 : wR.heap[p17]? = some (.cells (bv P).toArray 35 (0, 0))) (h18 : wR.heap[p18]? = some (.cells (bv Q).toArray 35 (0, 0))) (h19 : wR.heap[p19]? = some (.cells (bv M).toArray 35 (0, 0))) (z1 : P.length = 32) (z2 : Q.length = 32) (z3 : M.length = 32) (b1 : byt P) (b2 : byt Q) (b3 : byt M)
    (hI : InsR wR iv t.ins) (hok : t.Ok) (hn : n < t.ins.length) (hx : Rd wR sx script) (hsb : byt script) (hsl : script.length ≤ 1000) (hk : 0 ≤ kind ∧ kind ≤ 255) (hN1 : New wR w1 v1 (lowF 4 (t.ver % 4294967296))) (tl : Env) :
    W Try.prog (Ret fun u w' => u = .agg (bv (dblF (witB t t.ins[n] P Q M script value kind))).toArray ∧ Ext w w') 20 6 ((1, .int .i64 (n : Nat)) :: (2, sx) :: (3, .int .i64 value) :: (4, .int .u8 kind) :: (5, .pointer (some ⟨p5, 0, none⟩)) :: (10, .pointer (some ⟨p10, 0, none⟩)) :: (17, .pointer (some ⟨p17, 0, none⟩)) :: (18, .pointer (some ⟨p18, 0, none⟩)) :: (19, .pointer (some ⟨p19, 0, none⟩)) :: (20, v1) :: tl) w1 := by
  have t0 : (txC t iv ov)[0]? = some (.int .i32 t.ver) := rfl
  have t1 : (txC t iv ov)[1]? = some iv := rfl
  have t3 : (txC t iv ov)[3]? = some (.int .u32 t.lock) := rfl
  have hv32 : IntKind.u32.wrap t.ver = t.ver % 4294967296 := wrap_u32 _
  have hv64 : IntKind.u64.wrap (t.ver % 4294967296) = t.ver % 4294967296 := by rw [wrap_u64]; omega
  have hlk : IntKind.u64.wrap t.lock = t.lock := by have := hok.lock; rw [wrap_u64]; omega
  have hva : IntKind.u64.wrap value = value % 18446744073709551616 := wrap_u64 _
  obtain ⟨bb, o, c, cs, ev, hr0, hcs, sv, wv, ecs, hsvW, hwvW⟩ := hI.at hn
  have hy := hok.ins _ (List.getElem_mem hn)
  have bn : 0 ≤ ((n : Nat) : Int) ∧ ((n : Nat) : Int) < (t.ins.length : Nat) := by omega
  have hwB := witB_byt (t := t) (value := value) (kind := kind) hy b1 b2 b3 hsb
  have hwl := witB_len (t := t) (value := value) (kind := kind) hy z1 z2 z3 hsl
  generalize t.ins[n] = y at hy hsvW hwvW ecs hwB hwl ⊢
  subst ecs
  have hcel : ∀ wz, Ext wR wz → _ := fun wz hz => in_cells hy.len hr0 hz
  have t1' : (txC t iv ov)[1]? = some (.slice (some ⟨bb, o, none⟩) t.ins.length c) := by rw [t1, ev]
  have hs64 : IntKind.u64.wrap y.seq = y.seq := by have := hy.seq; rw [wrap_u64]; omega
  have l4 := lowF_len 4 (t.ver % 4294967296)
  have lpx : (plF y).length = 36 := by simp only [plF, List.length_append, lowF_len, hy.len]
  have lsz := (sizeF_len (n := (script.length : Int))).2
  have l8 := lowF_len 8 (value % 18446744073709551616)
  have lsq := lowF_len 4 y.seq
  have llk := lowF_len 4 t.lock
  -- two digests
  have hEd1 : Ext w1 w1.drew := (Keep.refl _ w1).drew
  have hN1d := hN1.keep hEd1
  (refine W_at c20_ok ?_; refine ⟨_, rfl, ?_⟩; simp (disch := first | omega | assumption | rfl | (simp only [vcS] <;> omega) | fail) only [↓vcL1, ↓vcA, vcB, ↓reduceIte, Nat.reduceEqDiff, Option.bind_some, Nat.sub_zero])
  refine appN hN1d (rd32 (hN1d.ext.at h17 (fun h => h)) z1) (by omega) fun v2 w2 hN2 _ _ => ?_
  first | (simp (disch := first | omega | assumption | rfl | (simp only [vcS] <;> omega) | fail) only [↓vcL2, ptS1_eq, ↓vcA, vcB, ↓reduceIte, Nat.reduceEqDiff]) | skip
  refine appN hN2 (rd32 (hN2.ext.at h18 (fun h => h)) z2) (by simp only [List.length_append]; omega) fun v3 w3 hN3 _ _ => ?_
  first | (simp (disch := first | omega | assumption | rfl | (simp only [vcS] <;> omega) | fail) only [ptS2_eq, ↓vcA, vcB, ↓reduceIte, Nat.reduceEqDiff]) | skip
  -- the place, the script
  have h53 := hN3.ext.at h5 (fun h => h)
  have hr3 := (hcel w3 hN3.ext).1
  (refine W_at c20_ok ?_; refine ⟨_, rfl, ?_⟩; simp (disch := first | omega | assumption | rfl | (simp only [vcS] <;> omega) | fail) only [↓vcL1, ↓vcA, vcB, ↓reduceIte, Nat.reduceEqDiff, Option.bind_some, Option.map_some, vcM, h53, t1', bn, Int.toNat_natCast, hr3])
  refine callV_ret (rplace_ok w3 y.prev y.idx hy.len hy.idx) ?_
  intro u4 w4 hu4
  first | (simp (disch := first | omega | assumption | rfl | (simp only [vcS] <;> omega) | fail) only [↓vcL2, ptS1_eq, ↓vcA, vcB, ↓reduceIte, Nat.reduceEqDiff]) | skip
  have hN4 := hN3.keep hu4.ext
  refine appN hN4 hu4.own.rd (by simp only [List.length_append, lowF_len, hy.len]; omega) fun v5 w5 hN5 _ _ => ?_
  first | (simp (disch := first | omega | assumption | rfl | (simp only [vcS] <;> omega) | fail) only [↓vcL1, ptS2_eq, ↓vcA, vcB, ↓reduceIte, Nat.reduceEqDiff, Option.bind_some, Option.map_some]) | skip
  refine callV_ret (text_ok w5 sx script (hx.ext hN5.ext) (by omega)) ?_
  intro u6 w6 hu6
  first | (simp (disch := first | omega | assumption | rfl | (simp only [vcS] <;> omega) | fail) only [↓vcL2, ptS1_eq, ↓vcA, vcB, ↓reduceIte, Nat.reduceEqDiff]) | skip
  have hN6 := hN5.keep hu6.ext
  refine appN hN6 hu6.own.rd (by simp only [List.length_append, lowF_len, hy.len]; omega) fun v7 w7 hN7 _ _ => ?_
  first | (simp (disch := first | omega | assumption | rfl | (simp only [vcS] <;> omega) | fail) only [ptS2_eq, ↓vcA, vcB, ↓reduceIte, Nat.reduceEqDiff]) | skip
  -- the value, the sequence
  have hEd7 : Ext w7 w7.drew := (Keep.refl _ w7).drew
  have hN7d := hN7.keep hEd7
  have h57 := hN7.ext.at h5 (fun h => h)
  have hr7 := (hcel w7 hN7.ext).2.1
  have h57d := hN7d.ext.at h5 (fun h => h)
  have hr7d := (hcel _ hN7d.ext).2.1
  (refine W_at c20_ok ?_; refine ⟨_, rfl, ?_⟩; simp (disch := first | omega | assumption | rfl | (simp only [vcS] <;> omega) | fail) only [↓vcL1, ↓vcA, vcB, ↓reduceIte, Nat.reduceEqDiff, Option.bind_some, Option.map_some, vcM, h57, t1', bn, Int.toNat_natCast, hr7, hva, hs64])
  refine callV_ret (low_ok w7.drew (value % 18446744073709551616) 8 (by omega) (by omega)) ?_
  intro u8 w8 hu8
  have hN8 := hN7d.keep hu8.ext
  have h58 := hN8.ext.at h5 (fun h => h)
  have hr8 := (hcel _ hN8.ext).2.1
  refine ⟨⟨hr8, by rw [h58]; exact t1'⟩, ?_⟩
  simp (disch := first | omega | assumption | rfl | (simp only [vcS] <;> omega) | fail) only [↓vcL2, ptS1_eq, ↓vcA, vcB, ↓reduceIte, Nat.reduceEqDiff, Option.bind_some, vcM]
  refine appN hN8 hu8.own.rd (by simp only [List.length_append, lowF_len, hy.len]; omega) fun v9 w9 hN9 _ _ => ?_
  have h59 := hN9.ext.at h5 (fun h => h)
  have hr9 := (hcel _ hN9.ext).2.1
  refine ⟨⟨hr9, by rw [h59]; exact t1'⟩, ?_⟩
  simp (disch := first | omega | assumption | rfl | (simp only [vcS] <;> omega) | fail) only [↓vcL1, ptS2_eq, ↓vcA, vcB, ↓reduceIte, Nat.reduceEqDiff, Option.bind_some, Option.map_some]
  refine callV_ret (low_ok w9 y.seq 4 (by have := hy.seq; omega) (by omega)) ?_
  intro uA wA huA
  have hNA := hN9.keep huA.ext
  simp (disch := first | omega | assumption | rfl | (simp only [vcS] <;> omega) | fail) only [↓vcL2, ptS1_eq, ↓vcA, vcB, ↓reduceIte, Nat.reduceEqDiff]
  refine appN hNA huA.own.rd (by simp only [List.length_append, lowF_len, hy.len]; omega) fun vB wB hNB _ _ => ?_
  first | (simp (disch := first | omega | assumption | rfl | (simp only [vcS] <;> omega) | fail) only [ptS2_eq, ↓vcA, vcB, ↓reduceIte, Nat.reduceEqDiff]) | skip
  -- the outputs' digest, the lock
  have hEdB : Ext wB wB.drew := (Keep.refl _ wB).drew
  have hNBd := hNB.keep hEdB
  have h5B := hNB.ext.at h5 (fun h => h)
  have h5Bd := hNBd.ext.at h5 (fun h => h)
  (refine W_at c20_ok ?_; refine ⟨_, rfl, ?_⟩; simp (disch := first | omega | assumption | rfl | (simp only [vcS] <;> omega) | fail) only [↓vcL1, ↓vcA, vcB, ↓reduceIte, Nat.reduceEqDiff, Option.bind_some, vcM, h5B, t3, hlk, Nat.sub_zero])
  refine appN hNBd (rd32 (hNBd.ext.at h19 (fun h => h)) z3) (by simp only [List.length_append, lowF_len, hy.len]; omega) fun vC wC hNC _ _ => ?_
  have h5C := hNC.ext.at h5 (fun h => h)
  refine ⟨by rw [h5C]; exact t3, ?_⟩
  simp (disch := first | omega | assumption | rfl | (simp only [vcS] <;> omega) | fail) only [↓vcL2, ptS1_eq, ↓vcA, vcB, ↓reduceIte, Nat.reduceEqDiff, Option.bind_some, Option.map_some]
  refine callV_ret (low_ok wC t.lock 4 (by have := hok.lock; omega) (by omega)) ?_
  intro uD wD huD
  have hND := hNC.keep huD.ext
  simp (disch := first | omega | assumption | rfl | (simp only [vcS] <;> omega) | fail) only [↓vcL1, ptS2_eq, ↓vcA, vcB, ↓reduceIte, Nat.reduceEqDiff]
  refine appN hND huD.own.rd (by simp only [List.length_append, lowF_len, hy.len]; omega) fun vE wE hNE _ _ => ?_
  first | (simp (disch := first | omega | assumption | rfl | (simp only [vcS] <;> omega) | fail) only [ptS1_eq, ↓vcA, vcB, ↓reduceIte, Nat.reduceEqDiff]) | skip
  -- the kind, the digest
  (refine W_at c20_ok ?_; refine ⟨_, rfl, ?_⟩; simp (disch := first | omega | assumption | rfl | (simp only [vcS] <;> omega) | fail) only [↓vcL1, ↓vcA, vcB, ↓reduceIte, Nat.reduceEqDiff, Nat.reduceAdd, Option.bind_some, Option.map_some, List.length_cons, List.length_nil, vcM])
  refine appNL (news := [kind, 0, 0, 0]) hNE (by simp only [List.length_append, List.length_cons, List.length_nil, lowF_len, hy.len]; omega) fun vF wF hNF _ _ => ?_
  have hbytes : lowF 4 (t.ver % 4294967296) ++ P ++ Q ++ (y.prev ++ lowF 4 y.idx) ++ (sizeF script.length ++ script) ++ lowF 8 (value % 18446744073709551616) ++ lowF 4 y.seq ++ M ++ lowF 4 t.lock ++ [kind, 0, 0, 0] = witB t y P Q M script value kind := by
    unfold witB plF; rw [lowF_kind hk]
  rw [hbytes] at hNF
  generalize witB t y P Q M script value kind = B at hNF hwB hwl ⊢
  simp (disch := first | omega | assumption | rfl | (simp only [vcS] <;> omega) | fail) only [↓vcL2, ptS1_eq, ↓vcA, vcB, ↓reduceIte, Option.bind_some, Option.map_some]
  refine callV_ret (rdouble_ok wF vF B hNF.own.rd hwB (by omega)) ?_
  rintro _ wG ⟨rfl, eG⟩
  have h10G := eG.at (hNF.ext.at h10 (fun h => h)) (fun h => h)
  have lD := dblF_len B
  have s32 : (bv (dblF B)).toArray.size = 32 := by rw [bva_size, lD]
  have o32 := ok32 (T := 35) zeroD_len
  first | (simp (disch := first | omega | assumption | rfl | (simp only [vcS] <;> omega) | fail) only [↓vcL1, ptS2_eq, ↓vcA, vcB, ↓reduceIte, Nat.reduceEqDiff, vcM, h10G, s32, o32]) | skip
  refine ⟨bv_flat _, ?_⟩
  have d9 := put32 h10G zeroD_len lD
  have hr32 : rdO (some (.cells (bv (dblF B)).toArray 35 (0, 0))) 0 32 = some (bv (dblF B)).toArray := rdO_all _ _ _ _ s32
  (refine W_at c20_ok ?_; refine ⟨_, rfl, ?_⟩; simp (disch := first | omega | assumption | rfl | (simp only [vcS] <;> omega) | fail) only [↓vcA, vcB, ↓reduceIte, Option.bind_some, Option.map_some, vcM, d9, hr32, Ret_returned])
  exact ((hE0.ext hNF.ext).ext eG).trans ((Keep.refl (fun g => g = p10) wG).putN _ fun _ => rfl) fun g hg e => by omega
set_option maxHeartbeats 6400000 in
theorem rw_17 (w wB : World) (p5 p10 n : Nat) (t : TxV) (iv ov sx a b c : Value) (script : List Int) (value kind : Int) (hE0 : Ext w wB) (l10 : w.heap.size ≤ p10) (h5 : wB.heap[p5]? = some (.cells (txC t iv ov) 26 (0, 0))) (h10 : wB.heap[p10]? = some (.cells (bv zeroD).toArray 35 (0, 0)))
    (ha : Rd wB a (t.ins.flatMap plF)) (hb : Rd wB b (t.ins.flatMap sqF)) (hc : Rd wB c (madeF t.outs n (kind % 32) t.outs.length)) (hT : TxR wB iv ov t) (hok : t.Ok) (hf : t.Few 100 1000) (hn : n < t.ins.length) (hx : Rd wB sx script) (hsb : byt script) (hsl : script.length ≤ 1000) (hk : 0 ≤ kind ∧ kind ≤ 255) (tl : Env) :
    W Try.prog (Ret fun u w' => u = .agg (bv (dblF (witB t t.ins[n] (witP t kind) (witQ t kind) (witM t n kind) script value kind))).toArray ∧ Ext w w') 20 17 ((1, .int .i64 (n : Nat)) :: (2, sx) :: (3, .int .i64 value) :: (4, .int .u8 kind) :: (5, .pointer (some ⟨p5, 0, none⟩)) :: (10, .pointer (some ⟨p10, 0, none⟩)) :: (11, .int .i64 (kind % 32)) :: (12, a) :: (13, b) :: (14, c) :: tl) wB := by
  have hli := ListR.len hT.ins
  have hlo := ListR.len hT.outs
  have t2 : (txC t iv ov)[2]? = some ov := rfl
  have hPl := plF_len (l := t.ins) fun x hx => (hok.ins x hx).len
  have hQl := sqF_len t.ins
  have hMl := madeF_len (n := n) (o := kind % 32) hf.oscr t.outs.length
  have hnI := hf.ins
  have hnO := hf.outs
  have hMb : byt (madeF t.outs n (kind % 32) t.outs.length) := by
    by_cases h3 : kind % 32 = 3
    · rw [h3, madeF_3 _ (Nat.le_refl _)]
      split
      · rename_i h
        exact byt_app (lowF_byt _ _) (byt_app (sizeF_byt' (by omega)) (hok.outs _ (List.getElem_mem h.2)).script)
      · exact byt_nil
    · rw [madeF_no h3 _ (Nat.le_refl _), List.take_length]
      exact flat_byt fun y hy => byt_app (lowF_byt _ _) (byt_app (sizeF_byt' (by omega)) (hok.outs y hy).script)
  have hPb : byt (t.ins.flatMap plF) := flat_byt fun y hy => byt_app (hok.ins y hy).prev (lowF_byt _ _)
  have hQb : byt (t.ins.flatMap sqF) := flat_byt fun y hy => lowF_byt _ _
  have o32 := ok32 (T := 35) zeroD_len
  have s32 : ∀ B, (bv (dblF B)).toArray.size = 32 := fun B => by rw [bva_size, dblF_len]
  -- the end
  have t0 : (txC t iv ov)[0]? = some (.int .i32 t.ver) := rfl
  have hv32 : IntKind.u32.wrap t.ver = t.ver % 4294967296 := wrap_u32 _
  have hv64 : IntKind.u64.wrap (t.ver % 4294967296) = t.ver % 4294967296 := by rw [wrap_u64]; omega
  have fin6 : ∀ wj w1 v1 p17 p18 p19 tl, RW wB wj p17 p18 p19 (witP t kind) (witQ t kind) (witM t n kind) → New wj w1 v1 (lowF 4 (t.ver % 4294967296)) → W Try.prog (Ret fun u w' => u = .agg (bv (dblF (witB t t.ins[n] (witP t kind) (witQ t kind) (witM t n kind) script value kind))).toArray ∧ Ext w w') 20 6 ((1, .int .i64 (n : Nat)) :: (2, sx) :: (3, .int .i64 value) :: (4, .int .u8 kind) :: (5, .pointer (some ⟨p5, 0, none⟩)) :: (10, .pointer (some ⟨p10, 0, none⟩)) :: (17, .pointer (some ⟨p17, 0, none⟩)) :: (18, .pointer (some ⟨p18, 0, none⟩)) :: (19, .pointer (some ⟨p19, 0, none⟩)) :: (20, v1) :: tl) w1 := by
    intro wj w1 v1 p17 p18 p19 tl h hN1
    exact rw_6 w wj w1 v1 p5 p10 p17 p18 p19 n t iv ov sx script value kind _ _ _ (hE0.ext h.ext) l10 (h.ext.at h5 (fun h => h)) (h.ext.at h10 (fun h => h)) h.h17 h.h18 h.h19 h.z1 h.z2 h.z3 (ite_dbl _).2 (ite_dbl _).2 (ite_dbl _).2 (hT.ext h.ext).ins hok hn (hx.ext h.ext) hsb hsl hk hN1 tl
  have fin : ∀ wj p17 p18 p19 tl, RW wB wj p17 p18 p19 (witP t kind) (witQ t kind) (witM t n kind) → W Try.prog (Ret fun u w' => u = .agg (bv (dblF (witB t t.ins[n] (witP t kind) (witQ t kind) (witM t n kind) script value kind))).toArray ∧ Ext w w') 20 7 ((1, .int .i64 (n : Nat)) :: (2, sx) :: (3, .int .i64 value) :: (4, .int .u8 kind) :: (5, .pointer (some ⟨p5, 0, none⟩)) :: (10, .pointer (some ⟨p10, 0, none⟩)) :: (17, .pointer (some ⟨p17, 0, none⟩)) :: (18, .pointer (some ⟨p18, 0, none⟩)) :: (19, .pointer (some ⟨p19, 0, none⟩)) :: tl) wj := by
    intro wj p17 p18 p19 tl h
    have h5j := h.ext.at h5 (fun h => h)
    (refine W_at c20_ok ?_; refine ⟨_, rfl, ?_⟩; simp (disch := first | omega | assumption | rfl | (simp only [vcS] <;> omega) | fail) only [↓ptV_l, ↓vcA, vcB, ↓reduceIte, Nat.reduceEqDiff, Option.bind_some, Option.map_some, vcM, h5j, t0, hv32, hv64])
    refine callV_ret (low_ok wj (t.ver % 4294967296) 4 (by omega) (by omega)) ?_
    intro v1 w1 hN1
    first | (simp (disch := first | omega | assumption | rfl | (simp only [vcS] <;> omega) | fail) only [↓ptV_l, ↓vcA, vcB, ↓vcD, vcE, ↓reduceIte, Nat.reduceEqDiff, Nat.reduceAdd, Nat.reduceMul, Nat.reduceLeDiff, Int.reduceLE, Int.reduceLT, Int.reduceEq, Int.reduceToNat, Int.reduceAdd, Int.reduceSub, Int.reduceMul, Int.reduceNeg, reduceCtorEq, Option.bind_some, Option.map_some, List.length_cons, List.length_nil, vcM, List.getElem?_toArray, List.getElem?_cons_zero, List.getElem?_cons_succ]) | skip
    exact fin6 wj w1 v1 _ _ _ _ h hN1
  have finc : ∀ wj p17 p18 p19 tl, RW wB wj p17 p18 p19 (witP t kind) (witQ t kind) (witM t n kind) → W Try.prog (Ret fun u w' => u = .agg (bv (dblF (witB t t.ins[n] (witP t kind) (witQ t kind) (witM t n kind) script value kind))).toArray ∧ Ext w w') 20 7 ((1, .int .i64 (n : Nat)) :: (2, sx) :: (3, .int .i64 value) :: (4, .int .u8 kind) :: (5, .pointer (some ⟨p5, 0, none⟩)) :: (10, .pointer (some ⟨p10, 0, none⟩)) :: (14, c) :: (17, .pointer (some ⟨p17, 0, none⟩)) :: (18, .pointer (some ⟨p18, 0, none⟩)) :: (19, .pointer (some ⟨p19, 0, none⟩)) :: tl) wj := by
    intro wj p17 p18 p19 tl h
    have h5j := h.ext.at h5 (fun h => h)
    (refine W_at c20_ok ?_; refine ⟨_, rfl, ?_⟩; simp (disch := first | omega | assumption | rfl | (simp only [vcS] <;> omega) | fail) only [↓ptV_l, ↓vcA, vcB, ↓reduceIte, Nat.reduceEqDiff, Option.bind_some, Option.map_some, vcM, h5j, t0, hv32, hv64])
    refine callV_ret (low_ok wj (t.ver % 4294967296) 4 (by omega) (by omega)) ?_
    intro v1 w1 hN1
    first | (simp (disch := first | omega | assumption | rfl | (simp only [vcS] <;> omega) | fail) only [↓ptV_l, ↓vcA, vcB, ↓vcD, vcE, ↓reduceIte, Nat.reduceEqDiff, Nat.reduceAdd, Nat.reduceMul, Nat.reduceLeDiff, Int.reduceLE, Int.reduceLT, Int.reduceEq, Int.reduceToNat, Int.reduceAdd, Int.reduceSub, Int.reduceMul, Int.reduceNeg, reduceCtorEq, Option.bind_some, Option.map_some, List.length_cons, List.length_nil, vcM, List.getElem?_toArray, List.getElem?_cons_zero, List.getElem?_cons_succ]) | skip
    exact fin6 wj w1 v1 _ _ _ _ h hN1
  -- the outputs
  have st10 : ∀ wj p17 p18 p19 tl, RW wB wj p17 p18 p19 (witP t kind) (witQ t kind) zeroD → W Try.prog (Ret fun u w' => u = .agg (bv (dblF (witB t t.ins[n] (witP t kind) (witQ t kind) (witM t n kind) script value kind))).toArray ∧ Ext w w') 20 10 ((1, .int .i64 (n : Nat)) :: (2, sx) :: (3, .int .i64 value) :: (4, .int .u8 kind) :: (5, .pointer (some ⟨p5, 0, none⟩)) :: (10, .pointer (some ⟨p10, 0, none⟩)) :: (11, .int .i64 (kind % 32)) :: (14, c) :: (17, .pointer (some ⟨p17, 0, none⟩)) :: (18, .pointer (some ⟨p18, 0, none⟩)) :: (19, .pointer (some ⟨p19, 0, none⟩)) :: tl) wj := by
    intro wj p17 p18 p19 tl h
    have h5j := h.ext.at h5 (fun h => h)
    have yes : ∀ tl, (kind % 32 ≠ 2 ∧ kind % 32 ≠ 3 ∨ kind % 32 = 3 ∧ n < t.outs.length) → W Try.prog (Ret fun u w' => u = .agg (bv (dblF (witB t t.ins[n] (witP t kind) (witQ t kind) (witM t n kind) script value kind))).toArray ∧ Ext w w') 20 8 ((1, .int .i64 (n : Nat)) :: (2, sx) :: (3, .int .i64 value) :: (4, .int .u8 kind) :: (5, .pointer (some ⟨p5, 0, none⟩)) :: (10, .pointer (some ⟨p10, 0, none⟩)) :: (14, c) :: (17, .pointer (some ⟨p17, 0, none⟩)) :: (18, .pointer (some ⟨p18, 0, none⟩)) :: (19, .pointer (some ⟨p19, 0, none⟩)) :: tl) wj := by
      intro tl hc1
      have eM : witM t n kind = dblF (madeF t.outs n (kind % 32) t.outs.length) := by
        unfold witM
        rw [if_pos hc1, madeF_all fun h3 => by rcases hc1 with h | h; exact absurd h3 h.2; exact h.2]
      (refine W_at c20_ok ?_; refine ⟨_, rfl, ?_⟩; simp (disch := first | omega | assumption | rfl | (simp only [vcS] <;> omega) | fail) only [↓ptV_l, ↓vcA, vcB, ↓reduceIte, Nat.reduceEqDiff, Option.bind_some, Option.map_some])
      refine callV_ret (rdouble_ok wj c _ (hc.ext h.ext) hMb (by omega)) ?_
      rintro _ wk ⟨rfl, ek⟩
      have hk1 := h.go ek
      have h19k := hk1.h19
      have hs := s32 (madeF t.outs n (kind % 32) t.outs.length)
      first | (simp (disch := first | omega | assumption | rfl | (simp only [vcS] <;> omega) | fail) only [↓vcA, vcB, vcM, h19k, hs, o32]) | skip
      refine ⟨bv_flat _, ?_⟩
      have h2 := hk1.put19 (P' := witM t n kind) (by rw [eM]; exact dblF_len _)
      rw [eM] at h2
      have := fin _ p17 p18 p19 [] (by rw [eM]; exact h2)
      exact this
    have no : ∀ tl, ¬ (kind % 32 ≠ 2 ∧ kind % 32 ≠ 3 ∨ kind % 32 = 3 ∧ n < t.outs.length) → W Try.prog (Ret fun u w' => u = .agg (bv (dblF (witB t t.ins[n] (witP t kind) (witQ t kind) (witM t n kind) script value kind))).toArray ∧ Ext w w') 20 7 ((1, .int .i64 (n : Nat)) :: (2, sx) :: (3, .int .i64 value) :: (4, .int .u8 kind) :: (5, .pointer (some ⟨p5, 0, none⟩)) :: (10, .pointer (some ⟨p10, 0, none⟩)) :: (14, c) :: (17, .pointer (some ⟨p17, 0, none⟩)) :: (18, .pointer (some ⟨p18, 0, none⟩)) :: (19, .pointer (some ⟨p19, 0, none⟩)) :: tl) wj := by
      intro tl hc1
      have eM : witM t n kind = zeroD := by unfold witM; rw [if_neg hc1]
      exact finc _ _ _ _ _ (by rw [eM]; exact h)
    by_cases c2 : kind % 32 = 2
    · have d2 : decide (kind % 32 = 2) = true := decide_eq_true c2
      have c3 : ¬ kind % 32 = 3 := by omega
      have d3 : decide (kind % 32 = 3) = false := decide_eq_false c3
      (refine W_at c20_ok ?_; refine ⟨_, rfl, ?_⟩; simp (disch := first | omega | assumption | rfl | (simp only [vcS] <;> omega) | fail) only [↓vcA, vcB, ↓reduceIte, Nat.reduceEqDiff, Option.bind_some, d2, d3])
      (refine W_at c20_ok ?_; refine ⟨_, rfl, ?_⟩; simp (disch := first | omega | assumption | rfl | (simp only [vcS] <;> omega) | fail) only [↓vcA, vcB, ↓reduceIte, Nat.reduceEqDiff])
      exact no _ (by rintro (h | h); exact h.1 c2; exact c3 h.1)
    · have d2 : decide (kind % 32 = 2) = false := decide_eq_false c2
      by_cases c3 : kind % 32 = 3
      · have d3 : decide (kind % 32 = 3) = true := decide_eq_true c3
        by_cases hl : n < t.outs.length
        · have hl' : ((n : Nat) : Int) < (t.outs.length : Nat) := by omega
          (refine W_at c20_ok ?_; refine ⟨_, rfl, ?_⟩; simp (disch := first | omega | assumption | rfl | (simp only [vcS] <;> omega) | fail) only [↓vcA, vcB, ↓reduceIte, Nat.reduceEqDiff, Option.bind_some, vcM, d2, d3, h5j, t2, hlo, hl'])
          (refine W_at c20_ok ?_; refine ⟨_, rfl, ?_⟩; simp (disch := first | omega | assumption | rfl | (simp only [vcS] <;> omega) | fail) only [↓vcA, vcB, ↓reduceIte, Nat.reduceEqDiff])
          exact yes _ (.inr ⟨c3, hl⟩)
        · have hl' : ¬ ((n : Nat) : Int) < (t.outs.length : Nat) := by omega
          (refine W_at c20_ok ?_; refine ⟨_, rfl, ?_⟩; simp (disch := first | omega | assumption | rfl | (simp only [vcS] <;> omega) | fail) only [↓vcA, vcB, ↓reduceIte, Nat.reduceEqDiff, Option.bind_some, vcM, d2, d3, h5j, t2, hlo, hl'])
          (refine W_at c20_ok ?_; refine ⟨_, rfl, ?_⟩; simp (disch := first | omega | assumption | rfl | (simp only [vcS] <;> omega) | fail) only [↓vcA, vcB, ↓reduceIte, Nat.reduceEqDiff])
          exact no _ (by rintro (h | h); exact h.2 c3; exact hl h.2)
      · have d3 : decide (kind % 32 = 3) = false := decide_eq_false c3
        (refine W_at c20_ok ?_; refine ⟨_, rfl, ?_⟩; simp (disch := first | omega | assumption | rfl | (simp only [vcS] <;> omega) | fail) only [↓vcA, vcB, ↓reduceIte, Nat.reduceEqDiff, Option.bind_some, d2, d3])
        (refine W_at c20_ok ?_; refine ⟨_, rfl, ?_⟩; simp (disch := first | omega | assumption | rfl | (simp only [vcS] <;> omega) | fail) only [↓vcA, vcB, ↓reduceIte, Nat.reduceEqDiff])
        exact yes _ (.inl ⟨c2, c3⟩)
  have E1 : ∀ (p1 p2 p3 : Nat) (l : Env), ∀ p ∈ ([(1, .int .i64 (n : Nat)), (2, sx), (3, .int .i64 value), (4, .int .u8 kind), (5, .pointer (some ⟨p5, 0, none⟩)), (10, .pointer (some ⟨p10, 0, none⟩)), (11, .int .i64 (kind % 32)), (14, c), (17, .pointer (some ⟨p1, 0, none⟩)), (18, .pointer (some ⟨p2, 0, none⟩)), (19, .pointer (some ⟨p3, 0, none⟩))] : Env),
      Vc.look ((1, .int .i64 (n : Nat)) :: (2, sx) :: (3, .int .i64 value) :: (4, .int .u8 kind) :: (5, .pointer (some ⟨p5, 0, none⟩)) :: (10, .pointer (some ⟨p10, 0, none⟩)) :: (11, .int .i64 (kind % 32)) :: (13, b) :: (14, c) :: (17, .pointer (some ⟨p1, 0, none⟩)) :: (18, .pointer (some ⟨p2, 0, none⟩)) :: (19, .pointer (some ⟨p3, 0, none⟩)) :: l) p.1 = some p.2 := by
    intro p1 p2 p3 l p hp
    simp only [List.mem_cons, List.not_mem_nil, or_false] at hp
    rcases hp with rfl | rfl | rfl | rfl | rfl | rfl | rfl | rfl | rfl | rfl | rfl <;> rfl
  have E2 : ∀ (p1 p2 p3 : Nat) (l : Env), ∀ p ∈ ([(1, .int .i64 (n : Nat)), (2, sx), (3, .int .i64 value), (4, .int .u8 kind), (5, .pointer (some ⟨p5, 0, none⟩)), (10, .pointer (some ⟨p10, 0, none⟩)), (11, .int .i64 (kind % 32)), (13, b), (14, c), (17, .pointer (some ⟨p1, 0, none⟩)), (18, .pointer (some ⟨p2, 0, none⟩)), (19, .pointer (some ⟨p3, 0, none⟩))] : Env),
      Vc.look ((1, .int .i64 (n : Nat)) :: (2, sx) :: (3, .int .i64 value) :: (4, .int .u8 kind) :: (5, .pointer (some ⟨p5, 0, none⟩)) :: (10, .pointer (some ⟨p10, 0, none⟩)) :: (11, .int .i64 (kind % 32)) :: (12, a) :: (13, b) :: (14, c) :: (17, .pointer (some ⟨p1, 0, none⟩)) :: (18, .pointer (some ⟨p2, 0, none⟩)) :: (19, .pointer (some ⟨p3, 0, none⟩)) :: l) p.1 = some p.2 := by
    intro p1 p2 p3 l p hp
    simp only [List.mem_cons, List.not_mem_nil, or_false] at hp
    rcases hp with rfl | rfl | rfl | rfl | rfl | rfl | rfl | rfl | rfl | rfl | rfl | rfl <;> rfl
  -- the sequences
  have st13 : ∀ wj p17 p18 p19, RW wB wj p17 p18 p19 (witP t kind) zeroD zeroD → W Try.prog (Ret fun u w' => u = .agg (bv (dblF (witB t t.ins[n] (witP t kind) (witQ t kind) (witM t n kind) script value kind))).toArray ∧ Ext w w') 20 13 ((1, .int .i64 (n : Nat)) :: (2, sx) :: (3, .int .i64 value) :: (4, .int .u8 kind) :: (5, .pointer (some ⟨p5, 0, none⟩)) :: (10, .pointer (some ⟨p10, 0, none⟩)) :: (11, .int .i64 (kind % 32)) :: (13, b) :: (14, c) :: (17, .pointer (some ⟨p17, 0, none⟩)) :: (18, .pointer (some ⟨p18, 0, none⟩)) :: (19, .pointer (some ⟨p19, 0, none⟩)) :: []) wj := by
    intro wj p17 p18 p19 h
    have no : ∀ tl, ¬ (kind < 128 ∧ kind % 32 ≠ 2 ∧ kind % 32 ≠ 3) → W Try.prog (Ret fun u w' => u = .agg (bv (dblF (witB t t.ins[n] (witP t kind) (witQ t kind) (witM t n kind) script value kind))).toArray ∧ Ext w w') 20 10 ((1, .int .i64 (n : Nat)) :: (2, sx) :: (3, .int .i64 value) :: (4, .int .u8 kind) :: (5, .pointer (some ⟨p5, 0, none⟩)) :: (10, .pointer (some ⟨p10, 0, none⟩)) :: (11, .int .i64 (kind % 32)) :: (13, b) :: (14, c) :: (17, .pointer (some ⟨p17, 0, none⟩)) :: (18, .pointer (some ⟨p18, 0, none⟩)) :: (19, .pointer (some ⟨p19, 0, none⟩)) :: tl) wj := fun tl hc1 =>
      W_env (st10 wj p17 p18 p19 [] (by unfold witQ; rw [if_neg hc1]; exact h)) (E1 _ _ _ tl)
    by_cases ca : kind < 128
    · by_cases c2 : kind % 32 = 2
      · have d2 : decide (kind % 32 = 2) = true := decide_eq_true c2
        (refine W_at c20_ok ?_; refine ⟨_, rfl, ?_⟩; simp (disch := first | omega | assumption | rfl | (simp only [vcS] <;> omega) | fail) only [↓vcA, vcB, ↓reduceIte, Nat.reduceEqDiff, Option.bind_some, ca, d2])
        (refine W_at c20_ok ?_; refine ⟨_, rfl, ?_⟩; simp (disch := first | omega | assumption | rfl | (simp only [vcS] <;> omega) | fail) only [↓vcA, vcB, ↓reduceIte, Nat.reduceEqDiff])
        exact no _ (fun h => h.2.1 c2)
      · have d2 : decide (kind % 32 = 2) = false := decide_eq_false c2
        by_cases c3 : kind % 32 = 3
        · have d3 : decide (kind % 32 = 3) = true := decide_eq_true c3
          (refine W_at c20_ok ?_; refine ⟨_, rfl, ?_⟩; simp (disch := first | omega | assumption | rfl | (simp only [vcS] <;> omega) | fail) only [↓vcA, vcB, ↓reduceIte, Nat.reduceEqDiff, Option.bind_some, ca, d2, d3])
          (refine W_at c20_ok ?_; refine ⟨_, rfl, ?_⟩; simp (disch := first | omega | assumption | rfl | (simp only [vcS] <;> omega) | fail) only [↓vcA, vcB, ↓reduceIte, Nat.reduceEqDiff])
          exact no _ (fun h => h.2.2 c3)
        · have d3 : decide (kind % 32 = 3) = false := decide_eq_false c3
          have eQ : witQ t kind = dblF (t.ins.flatMap sqF) := by unfold witQ; rw [if_pos ⟨ca, c2, c3⟩]
          (refine W_at c20_ok ?_; refine ⟨_, rfl, ?_⟩; simp (disch := first | omega | assumption | rfl | (simp only [vcS] <;> omega) | fail) only [↓vcA, vcB, ↓reduceIte, Nat.reduceEqDiff, Option.bind_some, ca, d2, d3])
          (refine W_at c20_ok ?_; refine ⟨_, rfl, ?_⟩; simp (disch := first | omega | assumption | rfl | (simp only [vcS] <;> omega) | fail) only [↓vcA, vcB, ↓reduceIte, Nat.reduceEqDiff])
          (refine W_at c20_ok ?_; refine ⟨_, rfl, ?_⟩; simp (disch := first | omega | assumption | rfl | (simp only [vcS] <;> omega) | fail) only [↓ptV_l, ↓vcA, vcB, ↓reduceIte, Nat.reduceEqDiff, Option.bind_some, Option.map_some])
          refine callV_ret (rdouble_ok wj b _ (hb.ext h.ext) hQb (by omega)) ?_
          rintro _ wk ⟨rfl, ek⟩
          have hk1 := h.go ek
          have h18k := hk1.h18
          have hs := s32 (t.ins.flatMap sqF)
          first | (simp (disch := first | omega | assumption | rfl | (simp only [vcS] <;> omega) | fail) only [↓vcA, vcB, vcM, h18k, hs, o32]) | skip
          refine ⟨bv_flat _, ?_⟩
          have h2 := hk1.put18 (P' := dblF (t.ins.flatMap sqF)) (dblF_len _)
          exact st10 _ p17 p18 p19 [] (by rw [eQ]; exact h2)
    · (refine W_at c20_ok ?_; refine ⟨_, rfl, ?_⟩; simp (disch := first | omega | assumption | rfl | (simp only [vcS] <;> omega) | fail) only [↓vcA, vcB, ↓reduceIte, Nat.reduceEqDiff, Option.bind_some, ca])
      (refine W_at c20_ok ?_; refine ⟨_, rfl, ?_⟩; simp (disch := first | omega | assumption | rfl | (simp only [vcS] <;> omega) | fail) only [↓vcA, vcB, ↓reduceIte, Nat.reduceEqDiff])
      exact no _ (fun h => ca h.1)
  -- three blocks
  have hW : RW wB (((wB.alloc (.cells (zc [(32, .int .u8 0)]) 35)).alloc (.cells (zc [(32, .int .u8 0)]) 35)).alloc (.cells (zc [(32, .int .u8 0)]) 35)) wB.heap.size (wB.heap.size + 1) (wB.heap.size + 1 + 1) zeroD zeroD zeroD := by
    have al : ∀ (w : World) (o : Obj), Ext w (w.alloc o) := fun w o => (Keep.refl _ w).alloc _
    have hb1 : zc [(32, Value.int .u8 0)] = (bv zeroD).toArray := rfl
    rw [hb1]
    generalize e1 : wB.alloc (.cells (bv zeroD).toArray 35) = w1
    have s1 : w1.heap.size = wB.heap.size + 1 := by rw [← e1]; exact size_alloc _ _
    have k1 : w1.heap[wB.heap.size]? = some (.cells (bv zeroD).toArray 35 (0, 0)) := by rw [← e1]; exact heap_new _ _ _ rfl
    have x1 : Ext wB w1 := by rw [← e1]; exact al _ _
    generalize e2 : w1.alloc (.cells (bv zeroD).toArray 35) = w2
    have s2 : w2.heap.size = wB.heap.size + 1 + 1 := by rw [← e2, size_alloc, s1]
    have k2 : w2.heap[wB.heap.size + 1]? = some (.cells (bv zeroD).toArray 35 (0, 0)) := by rw [← s1, ← e2]; exact heap_new _ _ _ rfl
    have x2 : Ext w1 w2 := by rw [← e2]; exact al _ _
    have k3 : (w2.alloc (.cells (bv zeroD).toArray 35)).heap[wB.heap.size + 1 + 1]? = some (.cells (bv zeroD).toArray 35 (0, 0)) := by rw [← s2]; exact heap_new _ _ _ rfl
    have x3 := al w2 (.cells (bv zeroD).toArray 35)
    exact ⟨(x1.ext x2).ext x3, x3.at (x2.at k1 (fun h => h)) (fun h => h), x3.at k2 (fun h => h), k3, by omega, by omega, by omega, by omega, by omega, by omega, zeroD_len, zeroD_len, zeroD_len⟩
  (refine W_at c20_ok ?_; refine ⟨_, rfl, ?_⟩; simp (disch := first | omega | assumption | rfl | (simp only [vcS] <;> omega) | fail) only [↓ptV_l, ↓vcA, vcB, ↓reduceIte, Nat.reduceEqDiff, vcM])
  generalize World.alloc _ _ = wj at hW ⊢
  generalize wB.heap.size + 1 + 1 = p19 at hW ⊢
  generalize wB.heap.size + 1 = p18 at hW ⊢
  generalize wB.heap.size = p17 at hW ⊢
  by_cases ca : kind < 128
  · have eP : witP t kind = dblF (t.ins.flatMap plF) := by unfold witP; rw [if_pos ca]
    (refine W_at c20_ok ?_; refine ⟨_, rfl, ?_⟩; simp (disch := first | omega | assumption | rfl | (simp only [vcS] <;> omega) | fail) only [↓vcA, vcB, ↓reduceIte, Nat.reduceEqDiff, Option.bind_some, ca])
    (refine W_at c20_ok ?_; refine ⟨_, rfl, ?_⟩; simp (disch := first | omega | assumption | rfl | (simp only [vcS] <;> omega) | fail) only [↓vcA, vcB, ↓reduceIte, Nat.reduceEqDiff])
    (refine W_at c20_ok ?_; refine ⟨_, rfl, ?_⟩; simp (disch := first | omega | assumption | rfl | (simp only [vcS] <;> omega) | fail) only [↓ptV_l, ↓vcA, vcB, ↓reduceIte, Nat.reduceEqDiff, Option.bind_some, Option.map_some])
    refine callV_ret (rdouble_ok wj a _ (ha.ext hW.ext) hPb (by omega)) ?_
    rintro _ wk ⟨rfl, ek⟩
    have hk1 := hW.go ek
    have h17k := hk1.h17
    have hs := s32 (t.ins.flatMap plF)
    first | (simp (disch := first | omega | assumption | rfl | (simp only [vcS] <;> omega) | fail) only [↓vcA, vcB, vcM, h17k, hs, o32]) | skip
    refine ⟨bv_flat _, ?_⟩
    have h2 := hk1.put17 (P' := dblF (t.ins.flatMap plF)) (dblF_len _)
    exact st13 _ p17 p18 p19 (by rw [eP]; exact h2)
  · (refine W_at c20_ok ?_; refine ⟨_, rfl, ?_⟩; simp (disch := first | omega | assumption | rfl | (simp only [vcS] <;> omega) | fail) only [↓vcA, vcB, ↓reduceIte, Nat.reduceEqDiff, Option.bind_some, ca])
    (refine W_at c20_ok ?_; refine ⟨_, rfl, ?_⟩; simp (disch := first | omega | assumption | rfl | (simp only [vcS] <;> omega) | fail) only [↓vcA, vcB, ↓reduceIte, Nat.reduceEqDiff])
    exact W_env (st13 wj p17 p18 p19 (by unfold witP; rw [if_neg ca]; exact hW)) (E2 _ _ _ _)
set_option maxHeartbeats 6400000 in
theorem rwitness_ok (w : World) (iv ov : Value) (t : TxV) (hT : TxR w iv ov t) (hok : t.Ok) (hf : t.Few 100 1000) (i : Int) (sx : Value) (script : List Int) (hx : Rd w sx script) (hsb : byt script) (hsl : script.length ≤ 1000) (value kind : Int) (hk : 0 ≤ kind ∧ kind ≤ 255) :
    Calls Try.prog 20 #[.agg (txC t iv ov), .int .i64 i, sx, .int .i64 value, .int .u8 kind] w (Ret fun u w' => u = .agg (bv (witF t i script value kind)).toArray ∧ Ext w w') := by
  refine calls_of_cfg c20_ok (Nat.le_of_ble_eq_true rfl) ?_
  simp only [argE_nil, argE_cons, Nat.reduceAdd, Nat.zero_add]
  have hli := ListR.len hT.ins
  have hfx := txC_flat hT
  have hcx : (Value.agg (txC t iv ov)).cells = txC t iv ov := rfl
  have hzx := txC_sz t iv ov
  (refine W_at c20_ok ?_; refine ⟨_, rfl, ?_⟩; simp (disch := first | omega | assumption | rfl | (simp only [vcS] <;> omega) | fail) only [↓ptV_l, ↓vcA, vcB, ↓reduceIte, Nat.reduceEqDiff, reduceCtorEq, vcM, hcx])
  have hE1 : Ext w (w.alloc (.cells (txC t iv ov) 26)) := (Keep.refl _ w).alloc _
  have c5 : (w.alloc (.cells (txC t iv ov) 26)).heap[w.heap.size]? = some (.cells (txC t iv ov) 26 (0, 0)) := heap_new _ _ _ rfl
  have s1 : (w.alloc (.cells (txC t iv ov) 26)).heap.size = w.heap.size + 1 := size_alloc _ _
  generalize World.alloc w _ = w1 at hE1 c5 s1 ⊢
  have hb1 : zc [(32, Value.int .u8 0)] = (bv zeroD).toArray := rfl
  have hE2 : Ext w1 (w1.alloc (.cells (zc [(32, .int .u8 0)]) 35)) := (Keep.refl _ w1).alloc _
  have h10 : (w1.alloc (.cells (zc [(32, .int .u8 0)]) 35)).heap[w.heap.size + 1]? = some (.cells (bv zeroD).toArray 35 (0, 0)) := by rw [hb1]; exact heap_new _ _ _ s1.symm
  generalize World.alloc w1 _ = w2 at hE2 h10 ⊢
  have h5 := hE2.at c5 (fun h => h)
  have hE := hE1.ext hE2
  have hT2 := hT.ext hE
  have hx2 := hx.ext hE
  have t1 : (txC t iv ov)[1]? = some iv := rfl
  have l10 : w.heap.size ≤ w.heap.size + 1 := by omega
  generalize w.heap.size + 1 = p10 at h10 l10 ⊢
  generalize hp5 : w.heap.size = p5 at h5 ⊢
  have noth : ¬ (0 ≤ i ∧ i.toNat < t.ins.length) → ∀ tl, W Try.prog (Ret fun u w' => u = .agg (bv (witF t i script value kind)).toArray ∧ Ext w w') 20 37 ((1, .int .i64 i) :: (2, sx) :: (3, .int .i64 value) :: (4, .int .u8 kind) :: (5, .pointer (some ⟨p5, 0, none⟩)) :: (10, .pointer (some ⟨p10, 0, none⟩)) :: tl) w2 := by
    intro hno tl
    unfold witF
    rw [dif_neg hno]
    have hbo : #[Value.int .u8 1] ++ zc [(31, .int .u8 0)] = (bv oneD).toArray := rfl
    have s32 : (bv oneD).toArray.size = 32 := rfl
    have o32 := ok32 (T := 35) zeroD_len
    have d9 := put32 h10 zeroD_len (show oneD.length = 32 from rfl)
    have hr32 : rdO (some (.cells (bv oneD).toArray 35 (0, 0))) 0 32 = some (bv oneD).toArray := rdO_all _ _ _ _ s32
    (refine W_at c20_ok ?_; refine ⟨_, rfl, ?_⟩; simp (disch := first | omega | assumption | rfl | (simp only [vcS] <;> omega) | fail) only [↓ptV_l, ↓vcA, vcB, ↓reduceIte, Nat.reduceEqDiff, Option.bind_some, Option.map_some, vcM, hbo, s32, h10, o32])
    refine ⟨bv_flat _, ?_⟩
    (refine W_at c20_ok ?_; refine ⟨_, rfl, ?_⟩; simp (disch := first | omega | assumption | rfl | (simp only [vcS] <;> omega) | fail) only [↓vcA, vcB, ↓reduceIte, Option.bind_some, Option.map_some, vcM, d9, hr32, Ret_returned])
    exact hE.trans ((Keep.refl (fun g => g = p10) w2).putN _ fun _ => rfl) fun g hg e => by omega
  by_cases a1 : i < 0
  · (refine W_at c20_ok ?_; refine ⟨_, rfl, ?_⟩; simp (disch := first | omega | assumption | rfl | (simp only [vcS] <;> omega) | fail) only [↓vcA, vcB, ↓reduceIte, Nat.reduceEqDiff, Option.bind_some, a1])
    (refine W_at c20_ok ?_; refine ⟨_, rfl, ?_⟩; simp (disch := first | omega | assumption | rfl | (simp only [vcS] <;> omega) | fail) only [↓vcA, vcB, ↓reduceIte, Nat.reduceEqDiff])
    exact noth (fun h => by omega) _
  by_cases a2 : (t.ins.length : Int) ≤ i
  · (refine W_at c20_ok ?_; refine ⟨_, rfl, ?_⟩; simp (disch := first | omega | assumption | rfl | (simp only [vcS] <;> omega) | fail) only [↓vcA, vcB, ↓reduceIte, Nat.reduceEqDiff, Option.bind_some, vcM, a1, a2, h5, t1, hli])
    (refine W_at c20_ok ?_; refine ⟨_, rfl, ?_⟩; simp (disch := first | omega | assumption | rfl | (simp only [vcS] <;> omega) | fail) only [↓vcA, vcB, ↓reduceIte, Nat.reduceEqDiff])
    exact noth (fun h => by omega) _
  (refine W_at c20_ok ?_; refine ⟨_, rfl, ?_⟩; simp (disch := first | omega | assumption | rfl | (simp only [vcS] <;> omega) | fail) only [↓vcA, vcB, ↓reduceIte, Nat.reduceEqDiff, Option.bind_some, vcM, a1, a2, h5, t1, hli])
  (refine W_at c20_ok ?_; refine ⟨_, rfl, ?_⟩; simp (disch := first | omega | assumption | rfl | (simp only [vcS] <;> omega) | fail) only [↓vcA, vcB, ↓reduceIte, Nat.reduceEqDiff])
  clear noth
  obtain ⟨n, rfl⟩ := Int.eq_ofNat_of_zero_le (show 0 ≤ i by omega)
  have hn : n < t.ins.length := by omega
  rw [witF_at script hn]
  (refine W_at c20_ok ?_; refine ⟨_, rfl, ?_⟩; simp (disch := first | omega | assumption | rfl | (simp only [vcS] <;> omega) | fail) only [↓ptV_l, ↓vcA, vcB, ↓reduceIte, Nat.reduceEqDiff, Option.bind_some, Option.map_some])
  refine callV_ret (outs12_ok w2 kind hk) ?_
  rintro _ wx ⟨rfl, hwx⟩
  rw [hwx]
  clear hwx
  first | (simp (disch := first | omega | assumption | rfl | (simp only [vcS] <;> omega) | fail) only [↓ptV_l, ↓vcA, vcB, ↓vcD, vcE, ↓reduceIte, Nat.reduceEqDiff, Nat.reduceAdd, Nat.reduceMul, Nat.reduceLeDiff, Int.reduceLE, Int.reduceLT, Int.reduceEq, Int.reduceToNat, Int.reduceAdd, Int.reduceSub, Int.reduceMul, Int.reduceNeg, reduceCtorEq, Option.bind_some, Option.map_some, List.length_cons, List.length_nil, vcM, List.getElem?_toArray, List.getElem?_cons_zero, List.getElem?_cons_succ]) | skip
  (refine W_at c20_ok ?_; refine ⟨_, rfl, ?_⟩; simp (disch := first | omega | assumption | rfl | (simp only [vcS] <;> omega) | fail) only [↓vcA, vcB, ↓reduceIte, Nat.reduceEqDiff])
  (refine W_at c20_ok ?_; refine ⟨_, rfl, ?_⟩; simp (disch := first | omega | assumption | rfl | (simp only [vcS] <;> omega) | fail) only [↓vcA, vcB, ↓reduceIte, Nat.reduceEqDiff])
  refine rw_ins _ w2 p5 p10 n t iv ov sx value kind h5 hT2.ins hok.ins hf.ins (fun wj a b tl hP => ?_) t.ins.length 0 w2 _ _ _ (by omega) ⟨New.nil w2, New.nil w2, fun g hg => (by cases hg)⟩
  (refine W_at c20_ok ?_; refine ⟨_, rfl, ?_⟩; simp (disch := first | omega | assumption | rfl | (simp only [vcS] <;> omega) | fail) only [↓vcA, vcB, ↓reduceIte, Nat.reduceEqDiff])
  refine rw_outs _ w2 p5 p10 n t iv ov sx a b value kind _ _ h5 hT2.outs hok.outs hf.outs hf.oscr hk (fun wj c tl hP => ?_) t.outs.length 0 wj _ _ (by omega) hP.three
  exact rw_17 w wj p5 p10 n t iv ov sx a b c script value kind (hE.ext hP.na.ext) l10 (hP.na.ext.at h5 (fun h => h)) (hP.na.ext.at h10 (fun h => h)) hP.na.own.rd hP.nb.own.rd hP.nc.own.rd (hT2.ext hP.na.ext) hok hf hn (hx2.ext hP.na.ext) hsb hsl hk tl
end Go.Proofs
namespace Go.Proofs
open Go.Vc
set_option maxRecDepth 10000

set_option maxHeartbeats 1600000 in
theorem rsame_ok (w : World) (x y : Value) (ps : List (List Int)) (hx : RowR w x ps) (hy : RowR w y ps) (hb : ∀ p ∈ ps, byt p) (hl : ps.length ≤ 140737488355328) :
    Calls Try.prog 35 #[x, y] w (Ret fun u w' => u = .bool true ∧ Ext w w') := by
  refine calls_of_cfg c35_ok (Nat.le_of_ble_eq_true rfl) ?_
  simp only [argE_nil, argE_cons, Nat.reduceAdd, Nat.zero_add]
  have hxl := hx.len
  have hyl := hy.len
  (refine W_at c35_ok ?_; refine ⟨_, rfl, ?_⟩; simp (disch := first | omega | assumption | rfl | (simp only [vcS] <;> omega) | fail) only [↓vcA, vcB, ↓reduceIte, Nat.reduceEqDiff, reduceCtorEq])
  (refine W_at c35_ok ?_; refine ⟨_, rfl, ?_⟩; simp (disch := first | omega | assumption | rfl | (simp only [vcS] <;> omega) | fail) only [↓vcA, vcB, ↓reduceIte, Nat.reduceEqDiff, reduceCtorEq, Option.bind_some, hxl, hyl])
  (refine W_at c35_ok ?_; refine ⟨_, rfl, ?_⟩; simp (disch := first | omega | assumption | rfl | (simp only [vcS] <;> omega) | fail) only [↓vcA, vcB, ↓reduceIte, Nat.reduceEqDiff, reduceCtorEq])
  (refine W_at c35_ok ?_; refine ⟨_, rfl, ?_⟩; simp (disch := first | omega | assumption | rfl | (simp only [vcS] <;> omega) | fail) only [↓vcA, vcB, ↓reduceIte, Nat.reduceEqDiff, reduceCtorEq])
  have L : ∀ (k i : Nat) (wj : World) (tl : Env), i + k = ps.length → Ext w wj → W Try.prog (Ret fun u w' => u = .bool true ∧ Ext w w') 35 10 ((0, x) :: (1, y) :: (5, .int .i64 (i : Nat)) :: tl) wj := by
    intro k
    induction k with
    | zero =>
      intro i wj tl hi hE
      have hno : ¬ ((i : Nat) : Int) < (ps.length : Nat) := by omega
      (refine W_at c35_ok ?_; refine ⟨_, rfl, ?_⟩; simp (disch := first | omega | assumption | rfl | (simp only [vcS] <;> omega) | fail) only [↓vcA, vcB, ↓reduceIte, Nat.reduceEqDiff, reduceCtorEq, Option.bind_some, hxl, hno])
      (refine W_at c35_ok ?_; refine ⟨_, rfl, ?_⟩; simp (disch := first | omega | assumption | rfl | (simp only [vcS] <;> omega) | fail) only [↓vcA, vcB, ↓reduceIte, Nat.reduceEqDiff, reduceCtorEq])
      (refine W_at c35_ok ?_; refine ⟨_, rfl, ?_⟩; simp (disch := first | omega | assumption | rfl | (simp only [vcS] <;> omega) | fail) only [↓vcA, vcB, ↓reduceIte])
      (refine W_at c35_ok ?_; refine ⟨_, rfl, ?_⟩; simp (disch := first | omega | assumption | rfl | (simp only [vcS] <;> omega) | fail) only [↓vcA, vcB, ↓reduceIte, Option.bind_some, Option.map_some, Ret_returned])
      exact hE
    | succ k ih =>
      intro i wj tl hi hE
      have hil : i < ps.length := by omega
      have hlt : ((i : Nat) : Int) < (ps.length : Nat) := by omega
      have b1 : 0 ≤ ((i : Nat) : Int) ∧ ((i : Nat) : Int) < (ps.length : Nat) := by omega
      have hwi : IntKind.i64.wrap (((i : Nat) : Int) + 1) = ((i + 1 : Nat) : Int) := wrap_i64 (by omega) (by omega)
      obtain ⟨bx, ox, cx, vx, ex, hvx, hrx⟩ := (hx.ext hE).at hil
      obtain ⟨by', oy, cy, vy, ey, hvy, hry⟩ := (hy.ext hE).at hil
      have hEd : Ext wj wj.drew := (Keep.refl _ wj).drew
      have hbp := hb _ (List.getElem_mem hil)
      have hvyd := cell_ext hvy hEd
      have hvxd := cell_ext hvx hEd
      (refine W_at c35_ok ?_; refine ⟨_, rfl, ?_⟩; simp (disch := first | omega | assumption | rfl | (simp only [vcS] <;> omega) | fail) only [↓vcA, vcB, ↓reduceIte, Nat.reduceEqDiff, reduceCtorEq, Option.bind_some, hxl, hlt])
      (refine W_at c35_ok ?_; refine ⟨_, rfl, ?_⟩; simp (disch := first | omega | assumption | rfl | (simp only [vcS] <;> omega) | fail) only [↓vcA, vcB, ↓reduceIte, Nat.reduceEqDiff, reduceCtorEq])
      (refine W_at c35_ok ?_; refine ⟨_, rfl, ?_⟩; simp (disch := first | omega | assumption | rfl | (simp only [vcS] <;> omega) | fail) only [↓ptV_l, ↓vcA, vcB, ↓reduceIte, Nat.reduceEqDiff, reduceCtorEq, Option.bind_some, Option.map_some, vcM, ex, ey, b1, Int.toNat_natCast, Nat.mul_one, hvx, hvy])
      refine callV_ret (equal_ok wj.drew vx vy _ _ (hrx.ext hEd) (hry.ext hEd) hbp hbp) ?_
      rintro _ wk ⟨rfl, hwk⟩
      rw [hwk]
      rw [decide_eq_true (rfl : ps[i] = ps[i])]
      first | (simp (disch := first | omega | assumption | rfl | (simp only [vcS] <;> omega) | fail) only [↓vcA, vcB]) | skip
      (refine W_at c35_ok ?_; refine ⟨_, rfl, ?_⟩; simp (disch := first | omega | assumption | rfl | (simp only [vcS] <;> omega) | fail) only [↓vcA, vcB, ↓reduceIte, Nat.reduceEqDiff, reduceCtorEq])
      (refine W_at c35_ok ?_; refine ⟨_, rfl, ?_⟩; simp (disch := first | omega | assumption | rfl | (simp only [vcS] <;> omega) | fail) only [↓vcA, vcB, ↓reduceIte, Nat.reduceEqDiff, reduceCtorEq, Option.bind_some, hwi])
      (refine W_at c35_ok ?_; refine ⟨_, rfl, ?_⟩; simp (disch := first | omega | assumption | rfl | (simp only [vcS] <;> omega) | fail) only [vcB])
      rw [← ex, ← ey]
      exact ih (i + 1) _ _ (by omega) (hE.ext hEd)
  exact L ps.length 0 w _ (by omega) (Keep.refl _ w)
theorem conf_pC {prev : List Int} (idx : Int) (h : prev.length = 32) : conf (skR [(32, .i .u8), (1, .i .u32)]) (pC prev idx).toList = true := by
  have h1 := conf_u8 prev
  rw [h] at h1
  have app : ∀ (l : List SK) (vs : List Value) (s : SK) (v : Value), conf l vs = true → s.ok v = true → conf (l ++ [s]) (vs ++ [v]) = true := by
    intro l
    induction l with
    | nil =>
      intro vs s v h1 h2
      cases vs with
      | nil => simp [conf, h2]
      | cons x vs => simp [conf] at h1
    | cons s0 l ih =>
      intro vs s v h1 h2
      cases vs with
      | nil => simp [conf] at h1
      | cons x vs =>
        simp only [conf, Bool.and_eq_true] at h1
        simp only [List.cons_append, conf, Bool.and_eq_true]
        exact ⟨h1.1, ih vs s v h1.2 h2⟩
  have := app _ _ (.i .u32) (.int .u32 idx) h1 (by simp [SK.ok])
  simpa [skR, pC] using this
theorem eqA_pC {prev : List Int} (idx : Int) (h : prev.length = 32) : eqAR true (skR [(32, .i .u8), (1, .i .u32)]) (.agg (pC prev idx)) (.agg (pC prev idx)) = some (.bool false) := by
  rw [eqA_a, if_pos ⟨conf_pC idx h, conf_pC idx h⟩, eqc_self]; rfl
set_option maxHeartbeats 6400000 in
theorem same09_ok (w : World) (iv ov iv' ov' : Value) (t : TxV) (h1 : TxR w iv ov t) (h2 : TxR w iv' ov' t) (hok : t.Ok) (hsz : t.Sz) :
    Calls Try.prog 15 #[.agg (txC t iv ov), .agg (txC t iv' ov')] w (Ret fun u w' => u = .bool true ∧ Ext w w') := by
  refine calls_of_cfg c15_ok (Nat.le_of_ble_eq_true rfl) ?_
  simp only [argE_nil, argE_cons, Nat.reduceAdd, Nat.zero_add]
  have hfx := txC_flat h1
  have hfy := txC_flat h2
  have hcx : (Value.agg (txC t iv ov)).cells = txC t iv ov := rfl
  have hcy : (Value.agg (txC t iv' ov')).cells = txC t iv' ov' := rfl
  have hzx := txC_sz t iv ov
  have hzy := txC_sz t iv' ov'
  (refine W_at c15_ok ?_; refine ⟨_, rfl, ?_⟩; simp (disch := first | omega | assumption | rfl | (simp only [vcS] <;> omega) | fail) only [↓ptV_l, ↓vcA, vcB, ↓reduceIte, Nat.reduceEqDiff, reduceCtorEq, vcM, hcx, hcy])
  have hE1 : Ext w (w.alloc (.cells (txC t iv ov) 26)) := (Keep.refl _ w).alloc _
  have c2 : (w.alloc (.cells (txC t iv ov) 26)).heap[w.heap.size]? = some (.cells (txC t iv ov) 26 (0, 0)) := heap_new _ _ _ rfl
  have s1 : (w.alloc (.cells (txC t iv ov) 26)).heap.size = w.heap.size + 1 := size_alloc _ _
  generalize World.alloc w _ = w1 at hE1 c2 s1 ⊢
  have hE2 : Ext w1 (w1.alloc (.cells (txC t iv' ov') 26)) := (Keep.refl _ w1).alloc _
  have c3 : (w1.alloc (.cells (txC t iv' ov') 26)).heap[w.heap.size + 1]? = some (.cells (txC t iv' ov') 26 (0, 0)) := heap_new _ _ _ s1.symm
  generalize World.alloc w1 _ = w2 at hE2 c3 ⊢
  have c2 := hE2.at c2 (fun h => h)
  have hE := hE1.ext hE2
  have h1 := h1.ext hE
  have h2 := h2.ext hE
  clear hE1 hE2 s1
  generalize w.heap.size + 1 = p3 at c3 ⊢
  generalize w.heap.size = p2 at c2 ⊢
  have x0 : (txC t iv ov)[0]? = some (.int .i32 t.ver) := rfl
  have x1 : (txC t iv ov)[1]? = some iv := rfl
  have x2 : (txC t iv ov)[2]? = some ov := rfl
  have x3 : (txC t iv ov)[3]? = some (.int .u32 t.lock) := rfl
  have y0 : (txC t iv' ov')[0]? = some (.int .i32 t.ver) := rfl
  have y1 : (txC t iv' ov')[1]? = some iv' := rfl
  have y2 : (txC t iv' ov')[2]? = some ov' := rfl
  have y3 : (txC t iv' ov')[3]? = some (.int .u32 t.lock) := rfl
  have li := ListR.len h1.ins
  have li' := ListR.len h2.ins
  have lo := ListR.len h1.outs
  have lo' := ListR.len h2.outs
  have e1 : decide (¬ t.ver = t.ver) = false := by simp
  have e2 : decide (¬ t.lock = t.lock) = false := by simp
  have e3 : decide (¬ (t.ins.length : Int) = t.ins.length) = false := by simp
  have e4 : decide (¬ (t.outs.length : Int) = t.outs.length) = false := by simp
  (refine W_at c15_ok ?_; refine ⟨_, rfl, ?_⟩; simp (disch := first | omega | assumption | rfl | (simp only [vcS] <;> omega) | fail) only [↓vcA, vcB, ↓reduceIte, Nat.reduceEqDiff, Option.bind_some, vcM, c2, c3, x0, x1, x2, x3, y0, y1, y2, y3, li, li', lo, lo'])
  (refine W_at c15_ok ?_; refine ⟨_, rfl, ?_⟩; simp (disch := first | omega | assumption | rfl | (simp only [vcS] <;> omega) | fail) only [↓vcA, vcB, ↓reduceIte, Nat.reduceEqDiff])
  (refine W_at c15_ok ?_; refine ⟨_, rfl, ?_⟩; simp (disch := first | omega | assumption | rfl | (simp only [vcS] <;> omega) | fail) only [↓vcA, vcB, ↓reduceIte, Nat.reduceEqDiff])
  clear e1 e2 e3 e4 hfx hfy hcx hcy hzx hzy x0 y0 x3 y3
  have hln := hsz.ins
  have hlo := hsz.outs
  -- the outputs
  have L2 : ∀ (k i : Nat) (wj : World) (tl : Env), i + k = t.outs.length → Ext w2 wj → W Try.prog (Ret fun u w' => u = .bool true ∧ Ext w w') 15 10 ((2, .pointer (some ⟨p2, 0, none⟩)) :: (3, .pointer (some ⟨p3, 0, none⟩)) :: (8, .int .i64 (i : Nat)) :: tl) wj := by
    intro k
    induction k with
    | zero =>
      intro i wj tl hi hj
      have hno : ¬ ((i : Nat) : Int) < (t.outs.length : Nat) := by omega
      have c2j := hj.at c2 (fun h => h)
      (refine W_at c15_ok ?_; refine ⟨_, rfl, ?_⟩; simp (disch := first | omega | assumption | rfl | (simp only [vcS] <;> omega) | fail) only [↓vcA, vcB, ↓reduceIte, Nat.reduceEqDiff, Option.bind_some, vcM, c2j, x2, lo, hno])
      (refine W_at c15_ok ?_; refine ⟨_, rfl, ?_⟩; simp (disch := first | omega | assumption | rfl | (simp only [vcS] <;> omega) | fail) only [↓vcA, vcB, ↓reduceIte, Nat.reduceEqDiff])
      (refine W_at c15_ok ?_; refine ⟨_, rfl, ?_⟩; simp (disch := first | omega | assumption | rfl | (simp only [vcS] <;> omega) | fail) only [↓vcA, vcB, ↓reduceIte])
      (refine W_at c15_ok ?_; refine ⟨_, rfl, ?_⟩; simp (disch := first | omega | assumption | rfl | (simp only [vcS] <;> omega) | fail) only [↓vcA, vcB, ↓reduceIte, Option.bind_some, Option.map_some, Ret_returned])
      exact hE.ext hj
    | succ k ih =>
      intro i wj tl hi hj
      have hil : i < t.outs.length := by omega
      have hlt : ((i : Nat) : Int) < (t.outs.length : Nat) := by omega
      have b1 : 0 ≤ ((i : Nat) : Int) ∧ ((i : Nat) : Int) < (t.outs.length : Nat) := by omega
      have hwi : IntKind.i64.wrap (((i : Nat) : Int) + 1) = ((i + 1 : Nat) : Int) := wrap_i64 (by omega) (by omega)
      have c2j := hj.at c2 (fun h => h)
      have c3j := hj.at c3 (fun h => h)
      (refine W_at c15_ok ?_; refine ⟨_, rfl, ?_⟩; simp (disch := first | omega | assumption | rfl | (simp only [vcS] <;> omega) | fail) only [↓vcA, vcB, ↓reduceIte, Nat.reduceEqDiff, Option.bind_some, vcM, c2j, x2, lo, hlt])
      (refine W_at c15_ok ?_; refine ⟨_, rfl, ?_⟩; simp (disch := first | omega | assumption | rfl | (simp only [vcS] <;> omega) | fail) only [↓vcA, vcB, ↓reduceIte, Nat.reduceEqDiff])
      obtain ⟨bx, ox, cx, cs, ex, hrx, _, sx, rfl, hsx⟩ := h1.outs.at hil
      obtain ⟨by', oy, cy, ds, ey, hry, _, sy, rfl, hsy⟩ := h2.outs.at hil
      have hy := hok.outs _ (List.getElem_mem hil)
      generalize t.outs[i] = y at hrx hsx hry hsy hy
      have hEd : Ext wj wj.drew := (Keep.refl _ wj).drew
      have hjd := hj.ext hEd
      have x2' : (txC t iv ov)[2]? = some (.slice (some ⟨bx, ox, none⟩) t.outs.length cx) := by rw [x2, ex]
      have y2' : (txC t iv' ov')[2]? = some (.slice (some ⟨by', oy, none⟩) t.outs.length cy) := by rw [y2, ey]
      have hx0 : cellO wj.heap[bx]? (ox + i * 2) = some (.int .i64 y.val) := by have := rdO_cell (rdO_ext' hj hrx) (j := 0) (by omega); rw [Nat.add_zero] at this; rw [this]; rfl
      have hx1 : cellO wj.heap[bx]? (ox + i * 2 + 1) = some sx := by rw [rdO_cell (rdO_ext' hj hrx) (by omega)]; rfl
      have hy0 : cellO wj.heap[by']? (oy + i * 2) = some (.int .i64 y.val) := by have := rdO_cell (rdO_ext' hj hry) (j := 0) (by omega); rw [Nat.add_zero] at this; rw [this]; rfl
      have hy1 : cellO wj.heap[by']? (oy + i * 2 + 1) = some sy := by rw [rdO_cell (rdO_ext' hj hry) (by omega)]; rfl
      (refine W_at c15_ok ?_; refine ⟨_, rfl, ?_⟩; simp (disch := first | omega | assumption | rfl | (simp only [vcS] <;> omega) | fail) only [↓ptV_l, ↓vcA, vcB, ↓reduceIte, Nat.reduceEqDiff, Option.bind_some, Option.map_some, vcM, c2j, c3j, x2', y2', b1, Int.toNat_natCast, hx0, hx1, hy0, hy1])
      refine callV_ret (equal_ok wj.drew sx sy _ _ (hsx.ext hjd) (hsy.ext hjd) hy.script hy.script) ?_
      rintro _ wk ⟨rfl, hwk⟩
      rw [hwk]
      rw [decide_eq_true (rfl : y.script = y.script)]
      first | (simp (disch := first | omega | assumption | rfl | (simp only [vcS] <;> omega) | fail) only [↓vcA, vcB]) | skip
      (refine W_at c15_ok ?_; refine ⟨_, rfl, ?_⟩; simp (disch := first | omega | assumption | rfl | (simp only [vcS] <;> omega) | fail) only [↓vcA, vcB, ↓reduceIte, Nat.reduceEqDiff])
      (refine W_at c15_ok ?_; refine ⟨_, rfl, ?_⟩; simp (disch := first | omega | assumption | rfl | (simp only [vcS] <;> omega) | fail) only [↓vcA, vcB, ↓reduceIte, Nat.reduceEqDiff, Option.bind_some, hwi])
      (refine W_at c15_ok ?_; refine ⟨_, rfl, ?_⟩; simp (disch := first | omega | assumption | rfl | (simp only [vcS] <;> omega) | fail) only [vcB])
      exact ih (i + 1) _ _ (by omega) hjd
  -- the inputs
  have L1 : ∀ (k i : Nat) (wj : World) (tl : Env), i + k = t.ins.length → Ext w2 wj → W Try.prog (Ret fun u w' => u = .bool true ∧ Ext w w') 15 21 ((2, .pointer (some ⟨p2, 0, none⟩)) :: (3, .pointer (some ⟨p3, 0, none⟩)) :: (5, .int .i64 (i : Nat)) :: tl) wj := by
    intro k
    induction k with
    | zero =>
      intro i wj tl hi hj
      have hno : ¬ ((i : Nat) : Int) < (t.ins.length : Nat) := by omega
      have c2j := hj.at c2 (fun h => h)
      (refine W_at c15_ok ?_; refine ⟨_, rfl, ?_⟩; simp (disch := first | omega | assumption | rfl | (simp only [vcS] <;> omega) | fail) only [↓vcA, vcB, ↓reduceIte, Nat.reduceEqDiff, Option.bind_some, vcM, c2j, x1, li, hno])
      (refine W_at c15_ok ?_; refine ⟨_, rfl, ?_⟩; simp (disch := first | omega | assumption | rfl | (simp only [vcS] <;> omega) | fail) only [↓vcA, vcB, ↓reduceIte, Nat.reduceEqDiff])
      (refine W_at c15_ok ?_; refine ⟨_, rfl, ?_⟩; simp (disch := first | omega | assumption | rfl | (simp only [vcS] <;> omega) | fail) only [↓vcA, vcB, ↓reduceIte, Nat.reduceEqDiff])
      exact L2 t.outs.length 0 wj _ (by omega) hj
    | succ k ih =>
      intro i wj tl hi hj
      have hil : i < t.ins.length := by omega
      have hlt : ((i : Nat) : Int) < (t.ins.length : Nat) := by omega
      have b1 : 0 ≤ ((i : Nat) : Int) ∧ ((i : Nat) : Int) < (t.ins.length : Nat) := by omega
      have hwi : IntKind.i64.wrap (((i : Nat) : Int) + 1) = ((i + 1 : Nat) : Int) := wrap_i64 (by omega) (by omega)
      have c2j := hj.at c2 (fun h => h)
      (refine W_at c15_ok ?_; refine ⟨_, rfl, ?_⟩; simp (disch := first | omega | assumption | rfl | (simp only [vcS] <;> omega) | fail) only [↓vcA, vcB, ↓reduceIte, Nat.reduceEqDiff, Option.bind_some, vcM, c2j, x1, li, hlt])
      (refine W_at c15_ok ?_; refine ⟨_, rfl, ?_⟩; simp (disch := first | omega | assumption | rfl | (simp only [vcS] <;> omega) | fail) only [↓vcA, vcB, ↓reduceIte, Nat.reduceEqDiff])
      obtain ⟨bx, ox, cx, cs, ex, hrx, _, sx, wx, rfl, hsx, hwx⟩ := h1.ins.at hil
      obtain ⟨by', oy, cy, ds, ey, hry, _, sy, wy, rfl, hsy, hwy⟩ := h2.ins.at hil
      have hy := hok.ins _ (List.getElem_mem hil)
      have hz := hsz.inp _ (List.getElem_mem hil)
      generalize t.ins[i] = y at hrx hsx hwx hry hsy hwy hy hz
      have x1' : (txC t iv ov)[1]? = some (.slice (some ⟨bx, ox, none⟩) t.ins.length cx) := by rw [x1, ex]
      have y1' : (txC t iv' ov')[1]? = some (.slice (some ⟨by', oy, none⟩) t.ins.length cy) := by rw [y1, ey]
      have hpl := hy.len
      have s36 := iC_size hpl sx wx
      have s36' := iC_size hpl sy wy
      have hr1 := rdO_ext' hj hrx
      (refine W_at c15_ok ?_; refine ⟨_, rfl, ?_⟩; simp (disch := first | omega | assumption | rfl | (simp only [vcS] <;> omega) | fail) only [↓ptV_l, ↓vcA, vcB, ↓reduceIte, Nat.reduceEqDiff, Option.bind_some, Option.map_some, vcM, c2j, x1', b1, Int.toNat_natCast, hr1, s36])
      refine ⟨iC_flat hsx.one hwx.one, by simp [zc, runs], ?_⟩
      have put : ∀ (wj : World) (sv wv : Value), Ext wj ((wj.alloc (.cells (zc [(32, .int .u8 0), (1, .int .u32 0), (1, .slice none 0 0), (1, .int .u32 0), (1, .slice none 0 0)]) 50)).putN wj.heap.size 0 (iC y sv wv)) ∧ ((wj.alloc (.cells (zc [(32, .int .u8 0), (1, .int .u32 0), (1, .slice none 0 0), (1, .int .u32 0), (1, .slice none 0 0)]) 50)).putN wj.heap.size 0 (iC y sv wv)).heap[wj.heap.size]? = some (.cells (iC y sv wv) 50 (0, 0)) := fun wj sv wv =>
        ⟨((Keep.refl _ wj).alloc _).putN _ (by intro hh; exfalso; omega), by rw [heap_putN_eq (heap_new _ _ _ rfl), splice_all (by rw [iC_size hpl]; rfl)]⟩
      obtain ⟨hEa, h6⟩ := put wj sx wx
      generalize World.putN _ _ _ _ = wa at hEa h6 ⊢
      generalize wj.heap.size = p6 at h6 ⊢
      have hja := hj.ext hEa
      have c3a := hja.at c3 (fun h => h)
      have hr2 := rdO_ext' hja hry
      (refine W_at c15_ok ?_; refine ⟨_, rfl, ?_⟩; simp (disch := first | omega | assumption | rfl | (simp only [vcS] <;> omega) | fail) only [↓ptV_l, ↓vcA, vcB, ↓reduceIte, Nat.reduceEqDiff, Option.bind_some, Option.map_some, vcM, c3a, y1', b1, Int.toNat_natCast, hr2, s36'])
      refine ⟨iC_flat hsy.one hwy.one, by simp [zc, runs], ?_⟩
      obtain ⟨hEb, h7⟩ := put wa sy wy
      generalize World.putN _ _ _ _ = wb at hEb h7 ⊢
      generalize wa.heap.size = p7 at h7 ⊢
      have hjb := hja.ext hEb
      have h6b := hEb.at h6 (fun h => h)
      have q1 := rd_pC hpl h6b
      have q2 := rd_pC hpl h7
      have qe := eqA_pC y.idx hpl
      have a33 := iC_33 hpl sx wx
      have a34 := iC_34 hpl sx wx
      have a35 := iC_35 hpl sx wx
      have b33 := iC_33 hpl sy wy
      have b34 := iC_34 hpl sy wy
      have b35 := iC_35 hpl sy wy
      rw [h6b] at q1
      rw [h7] at q2
      (refine W_at c15_ok ?_; refine ⟨_, rfl, ?_⟩; simp (disch := first | omega | assumption | rfl | (simp only [vcS] <;> omega) | fail) only [↓vcL1, ↓vcA, vcB, ↓reduceIte, Nat.reduceEqDiff, Option.bind_some, Option.map_some, vcM, h6b, h7, q1, q2, qe, a33, a34, b33, b34])
      refine callV_ret (equal_ok wb sx sy _ _ (hsx.ext hjb) (hsy.ext hjb) hy.script hy.script) ?_
      rintro _ wk ⟨rfl, hwk⟩
      rw [hwk]
      rw [decide_eq_true (rfl : y.script = y.script)]
      simp (disch := first | omega | assumption | rfl | (simp only [vcS] <;> omega) | fail) only [↓vcL2, ptS1_eq, ↓vcA, vcB, ↓reduceIte, Nat.reduceEqDiff, Option.bind_some, Option.map_some, vcM, h6b, h7, a35, b35]
      have hwl := hz.wit
      refine callV_ret (rsame_ok wb wx wy y.wit (hwx.ext hjb) (hwy.ext hjb) hy.wit (by omega)) ?_
      rintro _ wl ⟨rfl, hEl⟩
      first | (simp (disch := first | omega | assumption | rfl | (simp only [vcS] <;> omega) | fail) only [ptS2_eq, ↓vcA, vcB, ↓reduceIte, Nat.reduceEqDiff, Option.bind_some]) | skip
      (refine W_at c15_ok ?_; refine ⟨_, rfl, ?_⟩; simp (disch := first | omega | assumption | rfl | (simp only [vcS] <;> omega) | fail) only [↓vcA, vcB, ↓reduceIte, Nat.reduceEqDiff])
      (refine W_at c15_ok ?_; refine ⟨_, rfl, ?_⟩; simp (disch := first | omega | assumption | rfl | (simp only [vcS] <;> omega) | fail) only [↓vcA, vcB, ↓reduceIte, Nat.reduceEqDiff, Option.bind_some, hwi])
      (refine W_at c15_ok ?_; refine ⟨_, rfl, ?_⟩; simp (disch := first | omega | assumption | rfl | (simp only [vcS] <;> omega) | fail) only [vcB])
      exact ih (i + 1) _ _ (by omega) (hjb.ext hEl)
  exact L1 t.ins.length 0 w2 _ (by omega) (Keep.refl _ w2)
end Go.Proofs
namespace Go.Proofs
open Go.Vc
set_option maxRecDepth 10000

def inA : TxI := ⟨List.replicate 32 0, 0, [], 0, []⟩
set_option maxHeartbeats 3200000 in
theorem awake12_ok (w : World) : Calls Try.prog 7 #[] w (Ret fun u w' => u = .bool true ∧ Ext w w') := by
  refine calls_of_cfg c7_ok (Nat.le_of_ble_eq_true rfl) ?_
  simp only [argE_nil]
  (refine W_at c7_ok ?_; refine ⟨_, rfl, ?_⟩; simp (disch := first | omega | assumption | rfl | (simp only [vcS] <;> omega) | fail) only [↓vcA, vcB])
  have hz : #[] ++ zc [(32, Value.int .u8 0), (1, .int .u32 0), (1, .slice none 0 0), (1, .int .u32 0), (1, .slice none 0 0)] = iC inA (.slice none 0 0) (.slice none 0 0) := rfl
  have hz2 : zc [(32, Value.int .u8 0), (1, .int .u32 0), (1, .slice none 0 0), (1, .int .u32 0), (1, .slice none 0 0)] = iC inA (.slice none 0 0) (.slice none 0 0) := rfl
  have hs36 : (iC inA (.slice none 0 0) (.slice none 0 0)).size = 36 := rfl
  have hz3 : ∀ g, zc [(1, Value.int .i32 0)] ++ (#[Value.slice (some ⟨g, 0, none⟩) 1 1] ++ zc [(1, Value.slice none 0 0), (1, Value.int .u32 0)]) = txC txA (.slice (some ⟨g, 0, none⟩) 1 1) (.slice none 0 0) := fun g => rfl
  have hz4 : ∀ g, (txC txA (.slice (some ⟨g, 0, none⟩) 1 1) (.slice none 0 0)).size = 4 := fun g => rfl
  (refine W_at c7_ok ?_; refine ⟨_, rfl, ?_⟩; simp (disch := first | omega | assumption | rfl | (simp only [vcS] <;> omega) | fail) only [↓ptV_l, ↓vcA, vcB, ↓reduceIte, Nat.reduceEqDiff, Option.bind_some, Option.map_some, List.length_cons, List.length_nil, vcM, hz2, hs36, hz3, hz4])
  have he : ((iC inA (.slice none 0 0) (.slice none 0 0)).toList ++ []).toArray = iC inA (.slice none 0 0) (.slice none 0 0) := by simp
  rw [he]
  refine ⟨by intro y hy; simp only [txC, List.mem_cons, List.not_mem_nil, or_false] at hy; rcases hy with rfl | rfl | rfl | rfl <;> rfl, by decide, ?_⟩
  have hE1 : Ext w (w.alloc (.cells (iC inA (.slice none 0 0) (.slice none 0 0)) 50)) := (Keep.refl _ w).alloc _
  have c2 : (w.alloc (.cells (iC inA (.slice none 0 0) (.slice none 0 0)) 50)).heap[w.heap.size]? = some (.cells (iC inA (.slice none 0 0) (.slice none 0 0)) 50 (0, 0)) := heap_new _ _ _ rfl
  have s1 : (w.alloc (.cells (iC inA (.slice none 0 0) (.slice none 0 0)) 50)).heap.size = w.heap.size + 1 := size_alloc _ _
  generalize World.alloc w _ = w1 at hE1 c2 s1 ⊢
  rw [← s1]
  obtain ⟨hE2, d1⟩ := put_tx (wj := w1) (t := txA) (iv := .slice (some ⟨w.heap.size, 0, none⟩) 1 1) (ov := .slice none 0 0)
  generalize World.putN _ _ _ _ = w2 at hE2 d1 ⊢
  have c22 := hE2.at c2 (fun h => h)
  have hE := hE1.ext hE2
  generalize w1.heap.size = p1 at d1 ⊢
  generalize w.heap.size = g at c22 d1 ⊢
  have hR : TxR w2 (.slice (some ⟨g, 0, none⟩) 1 1) (.slice none 0 0) txA := by
    refine ⟨⟨[iC inA (.slice none 0 0) (.slice none 0 0)], rfl, fun c hc => by simp at hc; subst hc; exact hs36, ?_, ⟨_, _, rfl, Nat.le_refl _⟩, by decide, fun i a b => ?_⟩, ListR.nil _ _ _⟩
    · simp only [rdS, rdN_heap]
      rw [if_neg (by omega), c22, Nat.one_mul, rdO_all _ _ _ _ hs36]
      simp
    · have hi : i = 0 := by simp at a; exact a
      subst hi
      exact ⟨_, _, rfl, Rd.nil w2, RowR.nil w2⟩
  have r4 : rdO (some (.cells (txC txA (.slice (some ⟨g, 0, none⟩) 1 1) (.slice none 0 0)) 26 (0, 0))) 0 4 = some (txC txA (.slice (some ⟨g, 0, none⟩) 1 1) (.slice none 0 0)) := rdO_all _ _ _ _ rfl
  have hbo : #[Value.int .u8 1] ++ zc [(31, .int .u8 0)] = (bv oneD).toArray := rfl
  have s32 : (bv oneD).toArray.size = 32 := rfl
  have lO : oneD.length = 32 := rfl
  have q3 := eqA_self lO
  have q1 : eqAR true (skR [(32, .i .u8)]) (.agg (bv (legG txA 0 [] 1)).toArray) (.agg (bv oneD).toArray) = some (.bool true) := by rw [eqA32 (legG_len _ _ _ _) lO, decide_eq_false legA_1]; rfl
  (refine W_at c7_ok ?_; refine ⟨_, rfl, ?_⟩; simp (disch := first | omega | assumption | rfl | (simp only [vcS] <;> omega) | fail) only [↓vcL1, ↓vcA, vcB, ↓reduceIte, Option.bind_some, Option.map_some, vcM, d1, r4])
  refine callV_ret (legacy2_ok w2 _ _ txA hR txA_lm 0 _ [] (Rd.nil w2) byt_nil (by simp) 3 (by omega) (by omega)) ?_
  rintro _ w3 ⟨rfl, hE3⟩
  rw [legA_3]
  have d13 := hE3.at d1 (fun h => h)
  simp (disch := first | omega | assumption | rfl | (simp only [vcS] <;> omega) | fail) only [↓vcL2, ptS1_eq, ↓vcA, vcB, ↓reduceIte, Nat.reduceEqDiff, Option.bind_some, Option.map_some, vcM, hbo, q3, d13, r4]
  refine callV_ret (legacy2_ok w3 _ _ txA (hR.ext hE3) txA_lm 0 _ [] (Rd.nil w3) byt_nil (by simp) 1 (by omega) (by omega)) ?_
  rintro _ w4 ⟨rfl, hE4⟩
  simp (disch := first | omega | assumption | rfl | (simp only [vcS] <;> omega) | fail) only [↓vcL1, ptS2_eq, ↓vcA, vcB, ↓reduceIte, Nat.reduceEqDiff, Option.bind_some, Option.map_some, vcM, hbo, q1]
  refine callV_ret (known_ok w4 131 (by omega)) ?_
  rintro _ w5 ⟨rfl, hw5⟩
  rw [hw5, show knownF 131 = true from rfl]
  simp (disch := first | omega | assumption | rfl | (simp only [vcS] <;> omega) | fail) only [↓vcL2, ptS1_eq, ↓vcA, vcB, ↓reduceIte, Nat.reduceEqDiff, Option.bind_some, Option.map_some]
  refine callV_ret (known_ok w4 4 (by omega)) ?_
  rintro _ w6 ⟨rfl, hw6⟩
  rw [hw6, show knownF 4 = false from rfl]
  first | (simp (disch := first | omega | assumption | rfl | (simp only [vcS] <;> omega) | fail) only [ptS2_eq, ↓vcA, vcB, ↓reduceIte, Nat.reduceEqDiff, Option.bind_some]) | skip
  (refine W_at c7_ok ?_; refine ⟨_, rfl, ?_⟩; simp (disch := first | omega | assumption | rfl | (simp only [vcS] <;> omega) | fail) only [↓vcA, vcB, ↓reduceIte, Option.bind_some, Option.map_some, Ret_returned])
  exact (hE.ext hE3).ext hE4
end Go.Proofs
namespace Go.Proofs
open Go.Vc
set_option maxRecDepth 10000

set_option maxHeartbeats 6400000 in
theorem witlaw_ok (w : World) (iv ov : Value) (t : TxV) (hT : TxR w iv ov t) (hok : t.Ok) (hsz : t.Sz) (i : Int) (hi64 : -9223372036854775808 ≤ i ∧ i ≤ 9223372036854775807) (kind : Int) (hk : 0 ≤ kind ∧ kind ≤ 255) (sx : Value) (bs : List Int) (hx : Rd w sx bs) (hb : byt bs) (value : Int) :
    Calls Try.prog 5 #[.agg (txC t iv ov), .agg (wyC i kind sx value)] w (Ret fun u w' => u = .bool true ∧ Ext w w') := by
  refine calls_of_cfg c5_ok (Nat.le_of_ble_eq_true rfl) ?_
  simp only [argE_nil, argE_cons, Nat.reduceAdd, Nat.zero_add]
  have hfx := txC_flat hT
  have hcx : (Value.agg (txC t iv ov)).cells = txC t iv ov := rfl
  have hzx := txC_sz t iv ov
  have hfy := wyC_flat (i := i) (kind := kind) (value := value) hx.one
  have hcy : (Value.agg (wyC i kind sx value)).cells = wyC i kind sx value := rfl
  have hzy : (wyC i kind sx value).size = 4 := rfl
  (refine W_at c5_ok ?_; refine ⟨_, rfl, ?_⟩; simp (disch := first | omega | assumption | rfl | (simp only [vcS] <;> omega) | fail) only [↓ptV_l, ↓vcA, vcB, ↓reduceIte, Nat.reduceEqDiff, reduceCtorEq, vcM, hcx, hcy])
  have hE1 : Ext w (w.alloc (.cells (txC t iv ov) 26)) := (Keep.refl _ w).alloc _
  have c2 : (w.alloc (.cells (txC t iv ov) 26)).heap[w.heap.size]? = some (.cells (txC t iv ov) 26 (0, 0)) := heap_new _ _ _ rfl
  have s1 : (w.alloc (.cells (txC t iv ov) 26)).heap.size = w.heap.size + 1 := size_alloc _ _
  generalize World.alloc w _ = w1 at hE1 c2 s1 ⊢
  have hE2 : Ext w1 (w1.alloc (.cells (wyC i kind sx value) 29)) := (Keep.refl _ w1).alloc _
  have c3 : (w1.alloc (.cells (wyC i kind sx value) 29)).heap[w.heap.size + 1]? = some (.cells (wyC i kind sx value) 29 (0, 0)) := heap_new _ _ _ s1.symm
  generalize World.alloc w1 _ = w2 at hE2 c3 ⊢
  have c22 := hE2.at c2 (fun h => h)
  have hE02 := hE1.ext hE2
  generalize hp3 : w.heap.size + 1 = p3 at c3 ⊢
  generalize hp2 : w.heap.size = p2 at c22 c2 hp3 ⊢
  have y0 : (wyC i kind sx value)[0]? = some (.int .i64 i) := rfl
  have y1 : (wyC i kind sx value)[1]? = some (.int .u8 kind) := rfl
  have y2 : (wyC i kind sx value)[2]? = some sx := rfl
  have y3 : (wyC i kind sx value)[3]? = some (.int .i64 value) := rfl
  have r4 : ∀ (t : TxV) (iv ov : Value), rdO (some (.cells (txC t iv ov) 26 (0, 0))) 0 4 = some (txC t iv ov) := fun t iv ov => rdO_all _ _ _ _ rfl
  -- awake
  (refine W_at c5_ok ?_; refine ⟨_, rfl, ?_⟩; simp (disch := first | omega | assumption | rfl | (simp only [vcS] <;> omega) | fail) only [↓ptV_l, ↓vcA, vcB, ↓reduceIte, Nat.reduceEqDiff, Option.bind_some])
  refine callV_ret (awake12_ok w2) ?_
  rintro _ w3 ⟨rfl, hE3⟩
  first | (simp (disch := first | omega | assumption | rfl | (simp only [vcS] <;> omega) | fail) only [↓vcA, vcB]) | skip
  (refine W_at c5_ok ?_; refine ⟨_, rfl, ?_⟩; simp (disch := first | omega | assumption | rfl | (simp only [vcS] <;> omega) | fail) only [↓vcA, vcB, ↓reduceIte, Nat.reduceEqDiff])
  -- cut short
  have hEd : Ext w3 w3.drew := (Keep.refl _ w3).drew
  have c23 := hE3.at c22 (fun h => h)
  have c33 := hE3.at c3 (fun h => h)
  have c23d := hEd.at c23 (fun h => h)
  have c33d := hEd.at c33 (fun h => h)
  have hE03 := hE02.ext (hE3.ext hEd)
  (refine W_at c5_ok ?_; refine ⟨_, rfl, ?_⟩; simp (disch := first | omega | assumption | rfl | (simp only [vcS] <;> omega) | fail) only [↓vcL1, ↓vcA, vcB, ↓reduceIte, Nat.reduceEqDiff, Option.bind_some, Option.map_some, vcM, c23, c33, r4, y2])
  refine callV_ret (few12_ok w3.drew iv ov t (hT.ext hE03) hok hsz) ?_
  rintro _ w4 ⟨t', iv', ov', rfl, hT4, hok4, hsz4, hL4, hE4⟩
  have c24 := hE4.at c23d (fun h => h)
  have c34 := hE4.at c33d (fun h => h)
  refine ⟨by rw [c34]; exact y2, ?_⟩
  simp (disch := first | omega | assumption | rfl | (simp only [vcS] <;> omega) | fail) only [↓vcL2, ptS1_eq, ↓vcA, vcB, ↓reduceIte, Nat.reduceEqDiff, Option.bind_some, Option.map_some]
  have hE04 := hE03.ext hE4
  refine callV_ret (short12_ok w4 sx bs (hx.ext hE04)) ?_
  rintro sx' _ ⟨hx4, rfl⟩
  have hzt := txC_sz t' iv' ov'
  have o4 : okO (some (.cells (txC t iv ov) 26 (0, 0))) 0 4 = True := by simp only [okO, hzx]; simp
  first | (simp (disch := first | omega | assumption | rfl | (simp only [vcS] <;> omega) | fail) only [↓vcL1, ptS2_eq, ↓vcA, vcB, ↓reduceIte, Nat.reduceEqDiff, vcM, c24, hzt, o4]) | skip
  refine ⟨txC_flat hT4.r, ?_⟩
  rename_i wq
  have hk5 : Keep (fun g => g = p2) wq (wq.putN p2 0 (txC t' iv' ov')) := (Keep.refl _ wq).putN _ fun _ => rfl
  have hT5 := hT4.keepT hk5 fun g hg => by subst hg; exact ⟨_, _, c24, by decide, by decide, by decide, by decide⟩
  have d2 : (wq.putN p2 0 (txC t' iv' ov')).heap[p2]? = some (.cells (txC t' iv' ov') 26 (0, 0)) := by rw [heap_putN_eq c24, splice_all (by rw [hzx, hzt])]
  have d3 := hk5.at c34 (show ¬ p3 = p2 by omega)
  have hE5 : Ext w (wq.putN p2 0 (txC t' iv' ov')) := hE04.trans hk5 fun g hg e => by omega
  have hx5 : Rd (wq.putN p2 0 (txC t' iv' ov')) sx' (bs.take 300) := hx4 _ (hx.ext hE5)
  have hT5r := hT5.r
  generalize World.putN _ _ _ _ = w5 at hT5 hT5r d2 d3 hE5 hx5 ⊢
  clear hk5 c24 c34 hT4 hx4 o4 hE04 hE4 c23 c33 c23d c33d hEd hE03 hE3 hE02 hE2 hE1 c2 c22 c3
  have hbs : byt (bs.take 300) := byt_take hb _
  have hbl : (bs.take 300).length ≤ 300 := by rw [List.length_take]; omega
  generalize bs.take 300 = bs' at hx5 hbs hbl
  have hLm : t'.Lm := ⟨hok4, hsz4, by have := hL4.ins; omega, by have := hL4.outs; omega, fun x hx => by have := hL4.inp x hx; omega, fun y hy => by have := hL4.out y hy; omega⟩
  -- a copy
  (refine W_at c5_ok ?_; refine ⟨_, rfl, ?_⟩; simp (disch := first | omega | assumption | rfl | (simp only [vcS] <;> omega) | fail) only [↓ptV_l, ↓vcA, vcB, ↓reduceIte, Nat.reduceEqDiff, Option.bind_some, Option.map_some, vcM, d2, r4])
  refine callV_ret (rcopy_ok w5 iv' ov' t' hT5r hok4 hsz4) ?_
  rintro _ w7 ⟨v1, o1, rfl, hI7, hO7, hE7⟩
  have hR7 := txR_of hI7 hO7
  have hz7 := txC_sz t' v1 o1
  have hf7 := txC_flat hR7
  first | (simp (disch := first | omega | assumption | rfl | (simp only [vcS] <;> omega) | fail) only [↓vcA, vcB, vcM, hz7, hf7]) | skip
  obtain ⟨hE8, d6⟩ := put_tx (wj := w7) (t := t') (iv := v1) (ov := o1)
  refine ⟨by decide, ?_⟩
  generalize World.putN _ _ _ _ = w8 at hE8 d6 ⊢
  generalize w7.heap.size = p6 at d6 ⊢
  have hE78 := hE7.ext hE8
  have d28 := hE78.at d2 (fun h => h)
  have d38 := hE78.at d3 (fun h => h)
  have hT8 := hT5r.ext hE78
  have hC8 := hR7.ext hE8
  have hx8 := hx5.ext hE78
  have hE08 := hE5.ext hE78
  -- spare room
  (refine W_at c5_ok ?_; refine ⟨_, rfl, ?_⟩; simp (disch := first | omega | assumption | rfl | (simp only [vcS] <;> omega) | fail) only [↓ptV_l, ↓vcA, vcB, ↓reduceIte, Nat.reduceEqDiff, Option.bind_some, Option.map_some])
  refine callV_ret (spare_ok w8 sx' bs' hx8 hbs (by omega)) ?_
  rintro _ w9 ⟨g, rfl, hO9, hE9, hg9⟩
  have hin : Rd w9 (.slice (some ⟨g, 0, none⟩) bs'.length (bs'.length + 9)) bs' := by
    have h1 := hO9.rd.cut (l := 0) (j := bs'.length) (by omega) (by omega)
    rw [List.drop_zero, advA_0] at h1
    have h2 : (spareF bs').take bs'.length = bs' := by rw [spareF, List.take_left' rfl]
    rw [h2] at h1
    exact h1
  first | (simp (disch := first | omega | assumption | rfl | (simp only [vcS] <;> omega) | fail) only [↓vcA, vcB, List.getElem?_toArray, List.getElem?_cons_zero, List.getElem?_cons_succ]) | skip
  -- the digests
  have hEd : Ext w9 w9.drew := (Keep.refl _ w9).drew
  have hE9d := hE9.ext hEd
  have d29 := hE9.at d28 (fun h => h)
  have d39 := hE9.at d38 (fun h => h)
  have d69 := hE9.at d6 (fun h => h)
  have d29d := hE9d.at d28 (fun h => h)
  have d39d := hE9d.at d38 (fun h => h)
  have d69d := hE9d.at d6 (fun h => h)
  have hTd := hT8.ext hE9d
  have hCd := hC8.ext hE9d
  have hxd := hx8.ext hE9d
  have hind := hin.ext hEd
  have hOd := hO9.rd.ext hEd
  have hE0d := hE08.ext hE9d
  (refine W_at c5_ok ?_; refine ⟨_, rfl, ?_⟩; simp (disch := first | omega | assumption | rfl | (simp only [vcS] <;> omega) | fail) only [↓vcL1, ↓vcA, vcB, ↓reduceIte, Nat.reduceEqDiff, Option.bind_some, Option.map_some, vcM, d29, d39, r4, y0, y1, y3])
  refine callV_ret (witness2_ok w9.drew iv' ov' t' hTd hLm i _ bs' hind hbs (by omega) value kind hk) ?_
  rintro _ wA ⟨rfl, hEA⟩
  have d2A := hEA.at d29d (fun h => h)
  have d3A := hEA.at d39d (fun h => h)
  have d6A := hEA.at d69d (fun h => h)
  refine ⟨⟨by rw [d3A]; exact y1, by rw [d3A]; exact y3, by rw [d3A]; exact y0, by rw [d2A, r4]; rfl⟩, ?_⟩
  simp (disch := first | omega | assumption | rfl | (simp only [vcS] <;> omega) | fail) only [↓vcL2, ptS1_eq, ↓vcA, vcB, ↓reduceIte, Nat.reduceEqDiff, Option.bind_some, Option.map_some]
  refine callV_ret (rwitness_ok wA iv' ov' t' (hTd.ext hEA) hok4 hLm.few i sx' bs' (hxd.ext hEA) hbs (by omega) value kind hk) ?_
  rintro _ wB ⟨rfl, hEB⟩
  have d2B := hEB.at d2A (fun h => h)
  have d3B := hEB.at d3A (fun h => h)
  have d6B := hEB.at d6A (fun h => h)
  have qe := eqA_self (witF_len t' i bs' value kind)
  have hEdB := hEA.ext hEB
  simp (disch := first | omega | assumption | rfl | (simp only [vcS] <;> omega) | fail) only [↓vcL1, ptS2_eq, ↓vcA, vcB, ↓reduceIte, Nat.reduceEqDiff, Option.bind_some, Option.map_some, qe]
  refine callV_ret (kept_ok wB _ sx' bs' (hOd.ext hEdB) (hxd.ext hEdB) (by omega)) ?_
  rintro _ wC ⟨rfl, hEC⟩
  have d2C := hEC.at d2B (fun h => h)
  have d3C := hEC.at d3B (fun h => h)
  have d6C := hEC.at d6B (fun h => h)
  simp (disch := first | omega | assumption | rfl | (simp only [vcS] <;> omega) | fail) only [↓vcL2, ptS1_eq, ↓vcA, vcB, ↓reduceIte, Nat.reduceEqDiff, Option.bind_some, Option.map_some, vcM, d2C, d6C, r4]
  have hEdC := hEdB.ext hEC
  refine callV_ret (same09_ok wC iv' ov' v1 o1 t' (hTd.ext hEdC) (hCd.ext hEdC) hok4 hsz4) ?_
  rintro _ wD ⟨rfl, hED⟩
  have d3D := hED.at d3C (fun h => h)
  have hEdD := hEdC.ext hED
  first | (simp (disch := first | omega | assumption | rfl | (simp only [vcS] <;> omega) | fail) only [ptS2_eq, ↓vcA, vcB, ↓reduceIte, Nat.reduceEqDiff, Option.bind_some]) | skip
  (refine W_at c5_ok ?_; refine ⟨_, rfl, ?_⟩; simp (disch := first | omega | assumption | rfl | (simp only [vcS] <;> omega) | fail) only [↓vcA, vcB, ↓reduceIte, Option.bind_some, Option.map_some, Ret_returned])
  exact hE0d.ext hEdD
end Go.Proofs
namespace Go.Proofs.Ytmbjokhekfiihaa
open Go.Vc Go.ChangeShapes Go.WideShapes Go.ChangeAt Go.RowKit Go.Proofs

set_option maxRecDepth 100000 in
theorem witness_lifted (os : Os) (started : os.Started) (H : Type) (enc : TypeId × Value → H) :
    ReturnsInHanded {} Try.checked os 5 .any (Rows.sighashWitnessSpec.pre6 enc Try.prog Try.f5 Rows.sighashWitnessRow.domain false) (Rows.sighashWitnessSpec.post enc Try.prog Try.f5 false true false false) := by
  refine returnsInHanded_of_change_sized (C := Try.checked) Try.own started (by kernel_rfl) Try.func5
    (ChangeSpec.witness6 (enc := enc) (C := Try.checked) false ⟨#[], #[.agg #[.int .i32 0, .slice none 0 0, .slice none 0 0, .int .u32 0], .agg #[.int .i64 0, .int .u8 0, .slice none 0 0, .int .i64 0]], []⟩ 8 (by kernel_rfl) (by kernel_rfl) (by kernel_rfl) (by kernel_rfl)) ?_
  intro W base args ds gs before hval0 hW hcnd hz _
  refine post_trueB bzT Try.laidOut rfl rfl (tb := 4) (by kernel_rfl) ?_ ?_ hval0 hW hz ?_
  · rw [Try.params5]; intro t ht; simp at ht; rcases ht with rfl | rfl <;> exact ⟨by kernel_rfl, of_decide_eq_true (by kernel_rfl)⟩
  · intro ds hd; rw [Try.params5] at hd; match ds, hd with | [_, _], _ => rfl
  · intro hs ha
    rw [Try.params5] at hs ha
    obtain ⟨v, u, rfl⟩ := args_2 hs
    obtain ⟨t, iv, ov, rfl, hT, hok, hsz⟩ := tx_arg (ha 0 26 v rfl rfl)
    obtain ⟨i, kind, sx, value, bs, rfl, hi, hk, hx, hb, hv⟩ := way_arg (ha 1 29 u rfl rfl)
    exact witlaw_ok W iv ov t hT hok hsz i hi kind hk sx bs hx hb value
theorem witness_holds : Rows.SighashWitnessSaid :=
  OpenClaim.holds_of_wide 5 Try.f5 rfl rfl rfl rfl rfl rfl rfl ⟨rfl, rfl, rfl, rfl, rfl⟩ rfl rfl rfl rfl rfl (by kernel_rfl) Try.func5 (by kernel_rfl)
    (of_decide_eq_true (by kernel_rfl)) (by unfold Func.isWrapper; first | (rw [if_pos (by decide +kernel)]; kernel_rfl) | (rw [if_neg (by decide +kernel)]; exact ⟨rfl, rfl⟩))
    (fun os started H enc _ => witness_lifted os started H enc)
end Go.Proofs.Ytmbjokhekfiihaa
