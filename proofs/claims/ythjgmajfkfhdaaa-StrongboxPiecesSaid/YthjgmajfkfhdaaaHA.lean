/- SHA-256, as the document has it. -/
import Derived.Test.YthjgmajfkfhdaaaH9
set_option linter.unusedSimpArgs false
set_option linter.unusedVariables false
set_option linter.constructorNameAsVariable false
namespace Go.Proofs
open Go.Vc
set_option maxRecDepth 10000

theorem U32_mulC (y : BitVec 32) : binR .mul (U32 y) (.int .u32 256) = some (U32 (y * 256#32)) := U32_mul y 256#32
def accF (blk : List Int) (t : Nat) : Nat → BitVec 32
  | 0 => 0
  | i + 1 => accF blk t i * 256#32 + b32 (blk.getD (4 * t + i) 0)
theorem word_acc (a b c d : Int) (ha : 0 ≤ a ∧ a ≤ 255) (hb : 0 ≤ b ∧ b ≤ 255) (hc : 0 ≤ c ∧ c ≤ 255) (hd : 0 ≤ d ∧ d ≤ 255) : (((0#32 * 256#32 + b32 a) * 256#32 + b32 b) * 256#32 + b32 c) * 256#32 + b32 d = wordF a b c d := by
  apply BitVec.eq_of_toNat_eq
  have e1 : (b32 a).toNat = a.toNat := by unfold b32; rw [BitVec.toNat_ofNat, Nat.mod_eq_of_lt (by omega)]
  have e2 : (b32 b).toNat = b.toNat := by unfold b32; rw [BitVec.toNat_ofNat, Nat.mod_eq_of_lt (by omega)]
  have e3 : (b32 c).toNat = c.toNat := by unfold b32; rw [BitVec.toNat_ofNat, Nat.mod_eq_of_lt (by omega)]
  have e4 : (b32 d).toNat = d.toNat := by unfold b32; rw [BitVec.toNat_ofNat, Nat.mod_eq_of_lt (by omega)]
  unfold wordF
  simp only [BitVec.toNat_or, BitVec.toNat_shiftLeft, BitVec.toNat_add, BitVec.toNat_mul, e1, e2, e3, e4, BitVec.toNat_ofNat]
  rw [Nat.mod_eq_of_lt (a := a.toNat <<< 24) (by rw [Nat.shiftLeft_eq]; omega), Nat.mod_eq_of_lt (a := b.toNat <<< 16) (by rw [Nat.shiftLeft_eq]; omega), Nat.mod_eq_of_lt (a := c.toNat <<< 8) (by rw [Nat.shiftLeft_eq]; omega)]
  have s1 : a.toNat <<< 24 ||| b.toNat <<< 16 = a.toNat <<< 24 + b.toNat <<< 16 := (Nat.shiftLeft_add_eq_or_of_lt (by rw [Nat.shiftLeft_eq]; omega) _).symm
  have s2 : (a.toNat <<< 24 + b.toNat <<< 16) ||| c.toNat <<< 8 = a.toNat <<< 24 + b.toNat <<< 16 + c.toNat <<< 8 := by
    have e : a.toNat <<< 24 + b.toNat <<< 16 = (a.toNat * 256 + b.toNat) <<< 16 := by simp only [Nat.shiftLeft_eq]; omega
    rw [e]
    exact (Nat.shiftLeft_add_eq_or_of_lt (by rw [Nat.shiftLeft_eq]; omega) _).symm
  have s3 : (a.toNat <<< 24 + b.toNat <<< 16 + c.toNat <<< 8) ||| d.toNat = a.toNat <<< 24 + b.toNat <<< 16 + c.toNat <<< 8 + d.toNat := by
    have e : a.toNat <<< 24 + b.toNat <<< 16 + c.toNat <<< 8 = (a.toNat * 65536 + b.toNat * 256 + c.toNat) <<< 8 := by simp only [Nat.shiftLeft_eq]; omega
    rw [e]
    exact (Nat.shiftLeft_add_eq_or_of_lt (by omega) _).symm
  rw [s1, s2, s3]
  simp only [Nat.shiftLeft_eq]
  omega
theorem acc4 (blk : List Int) (t : Nat) (h : ∀ i, i < 4 → 0 ≤ blk.getD (4 * t + i) 0 ∧ blk.getD (4 * t + i) 0 ≤ 255) : accF blk t 4 = wordF (blk.getD (4 * t) 0) (blk.getD (4 * t + 1) 0) (blk.getD (4 * t + 2) 0) (blk.getD (4 * t + 3) 0) :=
  word_acc _ _ _ _ (h 0 (by omega)) (h 1 (by omega)) (h 2 (by omega)) (h 3 (by omega))
/-- The word that is being made. -/
def arrP (ws : List (BitVec 32)) (t : Nat) (x : BitVec 32) : Array Value := (arrW ws t).setIfInBounds t (U32 x)
theorem arrP_0 (ws : List (BitVec 32)) (t : Nat) (hl : ws.length = 64) (ht : t < 64) : arrP ws t 0 = arrW ws t := by
  unfold arrP arrW
  rw [List.setIfInBounds_toArray]
  congr 1
  have hlt : ((ws.take t).map U32).length = t := by simp [hl]; omega
  rw [show 64 - t = (64 - (t + 1)) + 1 by omega, List.replicate_succ, List.set_append_right _ _ (by omega), hlt, Nat.sub_self, List.set_cons_zero]
  rfl
theorem arrP_at (ws : List (BitVec 32)) (t : Nat) (x : BitVec 32) (hl : ws.length = 64) (ht : t < 64) : (arrP ws t x)[t]? = some (U32 x) := by
  unfold arrP
  rw [Array.getElem?_setIfInBounds_self_of_lt]
  rw [arrW_size ws t hl (by omega)]; exact ht
theorem arrP_set (ws : List (BitVec 32)) (t : Nat) (x y : BitVec 32) : (arrP ws t x).setIfInBounds t (U32 y) = arrP ws t y := by
  unfold arrP
  rw [Array.setIfInBounds_setIfInBounds]
theorem arrP_size (ws : List (BitVec 32)) (t : Nat) (x : BitVec 32) (hl : ws.length = 64) (ht : t < 64) : (arrP ws t x).size = 64 := by
  unfold arrP; rw [Array.size_setIfInBounds, arrW_size ws t hl (by omega)]
theorem arrP_done (ws : List (BitVec 32)) (t : Nat) (x : BitVec 32) (hl : ws.length = 64) (ht : t < 64) (hx : ws[t]? = some x) : arrP ws t x = arrW ws (t + 1) := arrW_set ws t x hl ht hx
def addB (s v : S8) (i : Nat) : Array Value := addA s v [] i
/-- The digest's bytes so far. -/
def outP (s : S8) (i : Nat) : List Int := (outF s).take i ++ List.replicate (32 - i) 0
theorem outF_at (s : S8) (i : Nat) (h : i < 32) : (outF s)[i]? = some (((((s.list.getD (i / 4) 0) >>> (24 - 8 * (i % 4))).toNat % 256 : Nat)) : Int) := by
  obtain ⟨a, b, hb, rfl⟩ : ∃ a b, b < 4 ∧ i = 4 * a + b := ⟨i / 4, i % 4, by omega, by omega⟩
  have e1 : (4 * a + b) / 4 = a := by omega
  have e2 : (4 * a + b) % 4 = b := by omega
  have ha : a < 8 := by omega
  rw [e1, e2]
  clear e1 e2 h
  match a, ha with
  | 0, _ => match b, hb with
    | 0, _ => rfl
    | 1, _ => rfl
    | 2, _ => rfl
    | 3, _ => rfl
  | 1, _ => match b, hb with
    | 0, _ => rfl
    | 1, _ => rfl
    | 2, _ => rfl
    | 3, _ => rfl
  | 2, _ => match b, hb with
    | 0, _ => rfl
    | 1, _ => rfl
    | 2, _ => rfl
    | 3, _ => rfl
  | 3, _ => match b, hb with
    | 0, _ => rfl
    | 1, _ => rfl
    | 2, _ => rfl
    | 3, _ => rfl
  | 4, _ => match b, hb with
    | 0, _ => rfl
    | 1, _ => rfl
    | 2, _ => rfl
    | 3, _ => rfl
  | 5, _ => match b, hb with
    | 0, _ => rfl
    | 1, _ => rfl
    | 2, _ => rfl
    | 3, _ => rfl
  | 6, _ => match b, hb with
    | 0, _ => rfl
    | 1, _ => rfl
    | 2, _ => rfl
    | 3, _ => rfl
  | 7, _ => match b, hb with
    | 0, _ => rfl
    | 1, _ => rfl
    | 2, _ => rfl
    | 3, _ => rfl
theorem outP_len (s : S8) (i : Nat) (h : i ≤ 32) : (outP s i).length = 32 := by
  unfold outP; rw [List.length_append, List.length_take, outF_len, List.length_replicate]; omega
theorem outP_set (s : S8) (i : Nat) (h : i < 32) : (outP s i).set i (((((s.list.getD (i / 4) 0) >>> (24 - 8 * (i % 4))).toNat % 256 : Nat)) : Int) = outP s (i + 1) := by
  unfold outP
  have hlt : ((outF s).take i).length = i := by rw [List.length_take, outF_len]; omega
  rw [show 32 - i = (32 - (i + 1)) + 1 by omega, List.replicate_succ, List.set_append_right _ _ (by omega), hlt, Nat.sub_self, List.set_cons_zero, List.take_add_one, outF_at s i h]
  simp
theorem outP_32 (s : S8) : outP s 32 = outF s := by
  unfold outP; rw [List.take_of_length_le (by rw [outF_len]; omega)]; simp
theorem wcs8_size (s : S8) : (wcs s.list).size = 8 := wcs_size _
theorem wcs8_bld (a b c d e f g h : BitVec 32) : (#[U32 a] ++ (#[U32 b] ++ (#[U32 c] ++ (#[U32 d] ++ (#[U32 e] ++ (#[U32 f] ++ #[U32 g, U32 h]))))) : Array Value) = wcs (S8.list ⟨a, b, c, d, e, f, g, h⟩) := by
  apply Array.ext'
  simp [wcs, S8.list]
set_option maxHeartbeats 3200000 in
theorem rsum_ok (w : World) (x : Value) (bs : List Int) (hx : Rd w x bs) (hbs : byt bs) (hl : bs.length ≤ 100000000) :
    Calls Try.prog 11 #[x] w (Ret fun u w' => u = .agg (bv (shaF bs)).toArray ∧ Ext w w') := by
  refine calls_of_cfg c11_ok (Nat.le_of_ble_eq_true rfl) ?_
  simp only [argE_nil, argE_cons, Nat.reduceAdd, Nat.zero_add]
  (refine W_at c11_ok ?_; refine ⟨_, rfl, ?_⟩; simp (disch := first | omega | assumption | rfl | (simp only [vcS] <;> omega) | fail) only [↓ptV_l, ↓vcA, vcB, ↓vcD, vcE, ↓reduceIte, Nat.reduceEqDiff, Nat.reduceAdd, Nat.reduceMul, Nat.reduceLeDiff, Int.reduceLE, Int.reduceLT, Int.reduceEq, Int.reduceToNat, Int.reduceAdd, Int.reduceSub, Int.reduceMul, Int.reduceNeg, reduceCtorEq, Option.bind_some, Option.map_some, List.length_cons, List.length_nil, vcM, List.getElem?_toArray, List.getElem?_cons_zero, List.getElem?_cons_succ])
  have hE0 : Ext w (w.alloc (.cells (zc [(32, .int .u8 0)]) 38)) := (Keep.refl _ w).alloc _
  have hp2 : (w.alloc (.cells (zc [(32, .int .u8 0)]) 38)).heap[w.heap.size]? = some (.cells (bv (List.replicate 32 0)).toArray 38 (0, 0)) := heap_new _ _ _ rfl
  generalize World.alloc _ _ = w1 at hE0 hp2 ⊢
  generalize hp2e : w.heap.size = p2 at hp2 ⊢
  (refine W_at c11_ok ?_; refine ⟨_, rfl, ?_⟩; simp (disch := first | omega | assumption | rfl | (simp only [vcS] <;> omega) | fail) only [↓ptV_l, ↓vcA, vcB, ↓vcD, vcE, ↓reduceIte, Nat.reduceEqDiff, Nat.reduceAdd, Nat.reduceMul, Nat.reduceLeDiff, Int.reduceLE, Int.reduceLT, Int.reduceEq, Int.reduceToNat, Int.reduceAdd, Int.reduceSub, Int.reduceMul, Int.reduceNeg, reduceCtorEq, Option.bind_some, Option.map_some, List.length_cons, List.length_nil, vcM, List.getElem?_toArray, List.getElem?_cons_zero, List.getElem?_cons_succ])
  have e64 : (#[Value.int .u32 1116352408] ++ (#[Value.int .u32 1899447441] ++ (#[Value.int .u32 3049323471] ++ (#[Value.int .u32 3921009573] ++ (#[Value.int .u32 961987163] ++ (#[Value.int .u32 1508970993] ++ (#[Value.int .u32 2453635748] ++ (#[Value.int .u32 2870763221] ++ (#[Value.int .u32 3624381080] ++ (#[Value.int .u32 310598401] ++ (#[Value.int .u32 607225278] ++ (#[Value.int .u32 1426881987] ++ (#[Value.int .u32 1925078388] ++ (#[Value.int .u32 2162078206] ++ (#[Value.int .u32 2614888103] ++ (#[Value.int .u32 3248222580] ++ (#[Value.int .u32 3835390401] ++ (#[Value.int .u32 4022224774] ++ (#[Value.int .u32 264347078] ++ (#[Value.int .u32 604807628] ++ (#[Value.int .u32 770255983] ++ (#[Value.int .u32 1249150122] ++ (#[Value.int .u32 1555081692] ++ (#[Value.int .u32 1996064986] ++ (#[Value.int .u32 2554220882] ++ (#[Value.int .u32 2821834349] ++ (#[Value.int .u32 2952996808] ++ (#[Value.int .u32 3210313671] ++ (#[Value.int .u32 3336571891] ++ (#[Value.int .u32 3584528711] ++ (#[Value.int .u32 113926993] ++ (#[Value.int .u32 338241895] ++ (#[Value.int .u32 666307205] ++ (#[Value.int .u32 773529912] ++ (#[Value.int .u32 1294757372] ++ (#[Value.int .u32 1396182291] ++ (#[Value.int .u32 1695183700] ++ (#[Value.int .u32 1986661051] ++ (#[Value.int .u32 2177026350] ++ (#[Value.int .u32 2456956037] ++ (#[Value.int .u32 2730485921] ++ (#[Value.int .u32 2820302411] ++ (#[Value.int .u32 3259730800] ++ (#[Value.int .u32 3345764771] ++ (#[Value.int .u32 3516065817] ++ (#[Value.int .u32 3600352804] ++ (#[Value.int .u32 4094571909] ++ (#[Value.int .u32 275423344] ++ (#[Value.int .u32 430227734] ++ (#[Value.int .u32 506948616] ++ (#[Value.int .u32 659060556] ++ (#[Value.int .u32 883997877] ++ (#[Value.int .u32 958139571] ++ (#[Value.int .u32 1322822218] ++ (#[Value.int .u32 1537002063] ++ (#[Value.int .u32 1747873779] ++ (#[Value.int .u32 1955562222] ++ (#[Value.int .u32 2024104815] ++ (#[Value.int .u32 2227730452] ++ (#[Value.int .u32 2361852424] ++ (#[Value.int .u32 2428436474] ++ (#[Value.int .u32 2756734187] ++ (#[Value.int .u32 3204031479, Value.int .u32 3329325298])))))))))))))))))))))))))))))))))))))))))))))))))))))))))))))) : Array Value) = wcs kL := by kernel_rfl
  rw [e64]
  clear e64
  have s64 : (wcs kL).size = 64 := by rw [wcs_size, kL_len]
  have z64 : (zc [(64, Value.int .u32 0)]).size = 64 := by simp [zc, runs]
  have hE1 : Ext w1 ((w1.alloc (.cells (zc [(64, .int .u32 0)]) 60)).putN w1.heap.size 0 (wcs kL)) := ((Keep.refl _ w1).alloc _).putN _ (by intro hh; exfalso; omega)
  have hp3 : ((w1.alloc (.cells (zc [(64, .int .u32 0)]) 60)).putN w1.heap.size 0 (wcs kL)).heap[w1.heap.size]? = some (.cells (wcs kL) 60 (0, 0)) := by
    rw [heap_putN_eq (heap_new _ _ _ rfl), splice_all (by rw [s64, z64])]
  first | refine ⟨s64, wcs_flat _, ?_⟩ | skip
  have hp2l := lt_of_heap hp2
  generalize World.putN _ _ _ _ = w2 at hE1 hp3 ⊢
  generalize w1.heap.size = p3 at hp3 hp2l ⊢
  have hp22 := hE1.at hp2 (fun h => h)
  (refine W_at c11_ok ?_; refine ⟨_, rfl, ?_⟩; simp (disch := first | omega | assumption | rfl | (simp only [vcS] <;> omega) | fail) only [↓ptV_l, ↓vcA, vcB, ↓vcD, vcE, ↓reduceIte, Nat.reduceEqDiff, Nat.reduceAdd, Nat.reduceMul, Nat.reduceLeDiff, Int.reduceLE, Int.reduceLT, Int.reduceEq, Int.reduceToNat, Int.reduceAdd, Int.reduceSub, Int.reduceMul, Int.reduceNeg, reduceCtorEq, Option.bind_some, Option.map_some, List.length_cons, List.length_nil, vcM, List.getElem?_toArray, List.getElem?_cons_zero, List.getElem?_cons_succ])
  have e8 : (#[Value.int .u32 1779033703] ++ (#[Value.int .u32 3144134277] ++ (#[Value.int .u32 1013904242] ++ (#[Value.int .u32 2773480762] ++ (#[Value.int .u32 1359893119] ++ (#[Value.int .u32 2600822924] ++ (#[Value.int .u32 528734635, Value.int .u32 1541459225])))))) : Array Value) = wcs iv.list := by kernel_rfl
  rw [e8]
  clear e8
  have s8 : (wcs iv.list).size = 8 := wcs_size _
  have hE2 : Ext w2 ((w2.alloc (.cells (zc [(8, .int .u32 0)]) 28)).putN w2.heap.size 0 (wcs iv.list)) := ((Keep.refl _ w2).alloc _).putN _ (by intro hh; exfalso; omega)
  have hp4 : ((w2.alloc (.cells (zc [(8, .int .u32 0)]) 28)).putN w2.heap.size 0 (wcs iv.list)).heap[w2.heap.size]? = some (.cells (wcs iv.list) 28 (0, 0)) := by
    rw [heap_putN_eq (heap_new _ _ _ rfl), splice_all (by rfl)]
  first | refine ⟨s8, wcs_flat _, ?_⟩ | skip
  have hp3l := lt_of_heap hp3
  generalize World.putN _ _ _ _ = w3 at hE2 hp4 ⊢
  generalize w2.heap.size = p4 at hp4 hp3l ⊢
  have hEE := (hE0.ext hE1).ext hE2
  (refine W_at c11_ok ?_; refine ⟨_, rfl, ?_⟩; simp (disch := first | omega | assumption | rfl | (simp only [vcS] <;> omega) | fail) only [↓ptV_l, ↓vcA, vcB, ↓vcD, vcE, ↓reduceIte, Nat.reduceEqDiff, Nat.reduceAdd, Nat.reduceMul, Nat.reduceLeDiff, Int.reduceLE, Int.reduceLT, Int.reduceEq, Int.reduceToNat, Int.reduceAdd, Int.reduceSub, Int.reduceMul, Int.reduceNeg, reduceCtorEq, Option.bind_some, Option.map_some, List.length_cons, List.length_nil, vcM, List.getElem?_toArray, List.getElem?_cons_zero, List.getElem?_cons_succ])
  refine callV_ret (fill_ok w3 x bs (hx.ext hEE) hl) ?_
  intro mv w4 hN
  have hp24 := (hE2.ext hN.ext).at hp22 (fun h => h)
  have hp34 := (hE2.ext hN.ext).at hp3 (fun h => h)
  have hp44 := hN.ext.at hp4 (fun h => h)
  have hEw4 := hEE.ext hN.ext
  have hmb : byt (allF bs) := byt_app hbs (padF_byt _)
  obtain ⟨nb, hnb⟩ := allF_len bs
  have hpl := padF_len bs.length
  have hall : (allF bs).length ≤ 200000000 := by unfold allF; rw [List.length_append]; omega
  have hm4 := hN.own
  have hmnew := hN.new
  have hp4l3 := lt_of_heap hp4
  have hsha : shaF bs = outF (runN (nb + 1) iv (allF bs)) := by unfold shaF; rw [hnb, Nat.mul_div_cancel_left _ (by omega)]
  rw [hsha]
  generalize allF bs = mm at hm4 hmb hnb hall ⊢
  first | (simp (disch := first | omega | assumption | rfl | (simp only [vcS] <;> omega) | fail) only [↓ptV_l, ↓vcA, vcB, ↓vcD, vcE, ↓reduceIte, Nat.reduceEqDiff, Nat.reduceAdd, Nat.reduceMul, Nat.reduceLeDiff, Int.reduceLE, Int.reduceLT, Int.reduceEq, Int.reduceToNat, Int.reduceAdd, Int.reduceSub, Int.reduceMul, Int.reduceNeg, reduceCtorEq, Option.bind_some, Option.map_some, List.length_cons, List.length_nil, vcM, List.getElem?_toArray, List.getElem?_cons_zero, List.getElem?_cons_succ]) | skip
  (refine W_at c11_ok ?_; refine ⟨_, rfl, ?_⟩; simp (disch := first | omega | assumption | rfl | (simp only [vcS] <;> omega) | fail) only [↓ptV_l, ↓vcA, vcB, ↓vcD, vcE, ↓reduceIte, Nat.reduceEqDiff, Nat.reduceAdd, Nat.reduceMul, Nat.reduceLeDiff, Int.reduceLE, Int.reduceLT, Int.reduceEq, Int.reduceToNat, Int.reduceAdd, Int.reduceSub, Int.reduceMul, Int.reduceNeg, reduceCtorEq, Option.bind_some, Option.map_some, List.length_cons, List.length_nil, vcM, List.getElem?_toArray, List.getElem?_cons_zero, List.getElem?_cons_succ])
  have hp2w : w.heap.size ≤ p2 := by omega
  -- the bytes of the digest
  have fin : ∀ (wj : World) (st : S8) (tl : Env), wj.heap[p4]? = some (.cells (wcs st.list) 28 (0, 0)) → wj.heap[p2]? = some (.cells (bv (List.replicate 32 0)).toArray 38 (0, 0)) → Ext w wj → st = runN (nb + 1) iv mm →
      W Try.prog (Ret fun u w' => u = .agg (bv (outF (runN (nb + 1) iv mm))).toArray ∧ Ext w w') 11 9 ((2, .pointer (some ⟨p2, 0, none⟩)) :: (3, .pointer (some ⟨p3, 0, none⟩)) :: (4, .pointer (some ⟨p4, 0, none⟩)) :: tl) wj := by
    intro wj st tl h4 h2 hE hst
    (refine W_at c11_ok ?_; refine ⟨_, rfl, ?_⟩; simp (disch := first | omega | assumption | rfl | (simp only [vcS] <;> omega) | fail) only [↓ptV_l, ↓vcA, vcB, ↓vcD, vcE, ↓reduceIte, Nat.reduceEqDiff, Nat.reduceAdd, Nat.reduceMul, Nat.reduceLeDiff, Int.reduceLE, Int.reduceLT, Int.reduceEq, Int.reduceToNat, Int.reduceAdd, Int.reduceSub, Int.reduceMul, Int.reduceNeg, reduceCtorEq, Option.bind_some, Option.map_some, List.length_cons, List.length_nil, vcM, List.getElem?_toArray, List.getElem?_cons_zero, List.getElem?_cons_succ])
    have hEa : Ext wj (wj.alloc (.cells (zc [(32, .int .u8 0)]) 38)) := (Keep.refl _ wj).alloc _
    have h18 : (wj.alloc (.cells (zc [(32, .int .u8 0)]) 38)).heap[wj.heap.size]? = some (.cells (bv (outP st 0)).toArray 38 (0, 0)) := heap_new _ _ _ rfl
    have h4l := lt_of_heap h4
    have h2l := lt_of_heap h2
    have hwl := hE.size
    generalize World.alloc _ _ = wa at hEa h18 ⊢
    generalize wj.heap.size = p18 at h18 h4l h2l hwl ⊢
    have h4a := hEa.at h4 (fun h => h)
    have h2a := hEa.at h2 (fun h => h)
    (refine W_at c11_ok ?_; refine ⟨_, rfl, ?_⟩; simp (disch := first | omega | assumption | rfl | (simp only [vcS] <;> omega) | fail) only [↓ptV_l, ↓vcA, vcB, ↓vcD, vcE, ↓reduceIte, Nat.reduceEqDiff, Nat.reduceAdd, Nat.reduceMul, Nat.reduceLeDiff, Int.reduceLE, Int.reduceLT, Int.reduceEq, Int.reduceToNat, Int.reduceAdd, Int.reduceSub, Int.reduceMul, Int.reduceNeg, reduceCtorEq, Option.bind_some, Option.map_some, List.length_cons, List.length_nil, vcM, List.getElem?_toArray, List.getElem?_cons_zero, List.getElem?_cons_succ])
    have LE : ∀ (k i : Nat) (wz : World), i + k = 32 → wz.heap[p18]? = some (.cells (bv (outP st i)).toArray 38 (0, 0)) → wz.heap[p4]? = some (.cells (wcs st.list) 28 (0, 0)) → wz.heap[p2]? = some (.cells (bv (List.replicate 32 0)).toArray 38 (0, 0)) → Ext w wz →
        W Try.prog (Ret fun u w' => u = .agg (bv (outF (runN (nb + 1) iv mm))).toArray ∧ Ext w w') 11 7 [(2, .pointer (some ⟨p2, 0, none⟩)), (4, .pointer (some ⟨p4, 0, none⟩)), (18, .pointer (some ⟨p18, 0, none⟩)), (19, .int .i64 (i : Nat))] wz := by
      intro k
      induction k with
      | zero =>
        intro i wz hi h18 h4 h2 hEz
        obtain rfl : i = 32 := by omega
        rw [outP_32] at h18
        have hr32 : rdO (some (.cells (bv (outF st)).toArray 38 (0, 0))) 0 32 = some (bv (outF st)).toArray := rdO_all _ _ _ _ (by rw [bva_size, outF_len])
        have s32 : (bv (outF st)).toArray.size = 32 := by rw [bva_size, outF_len]
        have hok : okO (some (.cells (bv (List.replicate 32 0)).toArray 38 (0, 0))) 0 32 = True := by simp only [okO, bva_size, List.length_replicate]; simp
        (refine W_at c11_ok ?_; refine ⟨_, rfl, ?_⟩; simp (disch := first | omega | assumption | rfl | (simp only [vcS] <;> omega) | fail) only [↓ptV_l, ↓vcA, vcB, ↓vcD, vcE, ↓reduceIte, Nat.reduceEqDiff, Nat.reduceAdd, Nat.reduceMul, Nat.reduceLeDiff, Int.reduceLE, Int.reduceLT, Int.reduceEq, Int.reduceToNat, Int.reduceAdd, Int.reduceSub, Int.reduceMul, Int.reduceNeg, reduceCtorEq, Option.bind_some, Option.map_some, List.length_cons, List.length_nil, vcM, List.getElem?_toArray, List.getElem?_cons_zero, List.getElem?_cons_succ])
        (refine W_at c11_ok ?_; refine ⟨_, rfl, ?_⟩; simp (disch := first | omega | assumption | rfl | (simp only [vcS] <;> omega) | fail) only [↓ptV_l, ↓vcA, vcB, ↓vcD, vcE, ↓reduceIte, Nat.reduceEqDiff, Nat.reduceAdd, Nat.reduceMul, Nat.reduceLeDiff, Int.reduceLE, Int.reduceLT, Int.reduceEq, Int.reduceToNat, Int.reduceAdd, Int.reduceSub, Int.reduceMul, Int.reduceNeg, reduceCtorEq, Option.bind_some, Option.map_some, List.length_cons, List.length_nil, vcM, List.getElem?_toArray, List.getElem?_cons_zero, List.getElem?_cons_succ])
        (refine W_at c11_ok ?_; refine ⟨_, rfl, ?_⟩; simp (disch := first | omega | assumption | rfl | (simp only [vcS] <;> omega) | fail) only [↓ptV_l, ↓vcA, vcB, ↓vcD, vcE, ↓reduceIte, Nat.reduceEqDiff, Nat.reduceAdd, Nat.reduceMul, Nat.reduceLeDiff, Int.reduceLE, Int.reduceLT, Int.reduceEq, Int.reduceToNat, Int.reduceAdd, Int.reduceSub, Int.reduceMul, Int.reduceNeg, reduceCtorEq, Option.bind_some, Option.map_some, List.length_cons, List.length_nil, vcM, List.getElem?_toArray, List.getElem?_cons_zero, List.getElem?_cons_succ, h18, h2, hr32, s32, hok])
        have k2 : Keep (fun y => y = p2) wz (wz.putN p2 0 (bv (outF st)).toArray) := (Keep.refl _ wz).putN _ fun _ => rfl
        have h2' : (wz.putN p2 0 (bv (outF st)).toArray).heap[p2]? = some (.cells (bv (outF st)).toArray 38 (0, 0)) := by
          rw [heap_putN_eq h2, splice_all (by rw [bva_size, bva_size, outF_len]; rfl)]
        refine ⟨bv_flat _, ?_⟩
        have hEk : Ext w (wz.putN p2 0 (bv (outF st)).toArray) := hEz.trans k2 fun x hx e => by omega
        generalize World.putN _ _ _ _ = wk at k2 h2' hEk ⊢
        (refine W_at c11_ok ?_; refine ⟨_, rfl, ?_⟩; simp (disch := first | omega | assumption | rfl | (simp only [vcS] <;> omega) | fail) only [↓ptV_l, ↓vcA, vcB, ↓vcD, vcE, ↓reduceIte, Nat.reduceEqDiff, Nat.reduceAdd, Nat.reduceMul, Nat.reduceLeDiff, Int.reduceLE, Int.reduceLT, Int.reduceEq, Int.reduceToNat, Int.reduceAdd, Int.reduceSub, Int.reduceMul, Int.reduceNeg, reduceCtorEq, Option.bind_some, Option.map_some, List.length_cons, List.length_nil, vcM, List.getElem?_toArray, List.getElem?_cons_zero, List.getElem?_cons_succ, Ret_returned, h2', hr32])
        exact ⟨by rw [← hst], hEk⟩
      | succ k ih =>
        intro i wz hi h18 h4 h2 hEz
        have hlt : ((i : Nat) : Int) < 32 := by omega
        have b1 : 0 ≤ ((i : Nat) : Int) ∧ ((i : Nat) : Int) < 32 := by omega
        have hwi : IntKind.i64.wrap (((i : Nat) : Int) + 1) = ((i + 1 : Nat) : Int) := wrap_i64 (by omega) (by omega)
        have hq : Int.tdiv ((i : Nat) : Int) 4 = ((i / 4 : Nat) : Int) := by rw [Int.tdiv_eq_ediv_of_nonneg (by omega)]; omega
        have hq2 : IntKind.i64.wrap ((i / 4 : Nat) : Int) = ((i / 4 : Nat) : Int) := wrap_i64 (by omega) (by omega)
        have hm : Int.tmod ((i : Nat) : Int) 4 = ((i % 4 : Nat) : Int) := by rw [Int.tmod_eq_emod_of_nonneg (by omega)]; omega
        have hw8 : IntKind.i64.wrap (8 * ((i % 4 : Nat) : Int)) = ((8 * (i % 4) : Nat) : Int) := by rw [wrap_i64 (by omega) (by omega)]; omega
        have hws : IntKind.i64.wrap (24 - ((8 * (i % 4) : Nat) : Int)) = ((24 - 8 * (i % 4) : Nat) : Int) := by rw [wrap_i64 (by omega) (by omega)]; omega
        have hwu : IntKind.u64.wrap ((24 - 8 * (i % 4) : Nat) : Int) = ((24 - 8 * (i % 4) : Nat) : Int) := by rw [wrap_u64]; omega
        have bq : 0 ≤ ((i / 4 : Nat) : Int) ∧ ((i / 4 : Nat) : Int) < 8 := by omega
        have hel := wcs8_at st (i / 4) (by omega)
        have hsh := U32_shr (st.list.getD (i / 4) 0) .u64 (24 - 8 * (i % 4)) (by omega)
        obtain ⟨a1, c1, e1⟩ := poke (((((st.list.getD (i / 4) 0) >>> (24 - 8 * (i % 4))).toNat % 256 : Nat)) : Int) h18 (i := i) (by rw [outP_len _ _ (by omega)]; omega)
        rw [outP_set st i (by omega)] at c1
        (refine W_at c11_ok ?_; refine ⟨_, rfl, ?_⟩; simp (disch := first | omega | assumption | rfl | (simp only [vcS] <;> omega) | fail) only [↓ptV_l, ↓vcA, vcB, ↓vcD, vcE, ↓reduceIte, Nat.reduceEqDiff, Nat.reduceAdd, Nat.reduceMul, Nat.reduceLeDiff, Int.reduceLE, Int.reduceLT, Int.reduceEq, Int.reduceToNat, Int.reduceAdd, Int.reduceSub, Int.reduceMul, Int.reduceNeg, reduceCtorEq, Option.bind_some, Option.map_some, List.length_cons, List.length_nil, vcM, List.getElem?_toArray, List.getElem?_cons_zero, List.getElem?_cons_succ, hlt])
        (refine W_at c11_ok ?_; refine ⟨_, rfl, ?_⟩; simp (disch := first | omega | assumption | rfl | (simp only [vcS] <;> omega) | fail) only [↓ptV_l, ↓vcA, vcB, ↓vcD, vcE, ↓reduceIte, Nat.reduceEqDiff, Nat.reduceAdd, Nat.reduceMul, Nat.reduceLeDiff, Int.reduceLE, Int.reduceLT, Int.reduceEq, Int.reduceToNat, Int.reduceAdd, Int.reduceSub, Int.reduceMul, Int.reduceNeg, reduceCtorEq, Option.bind_some, Option.map_some, List.length_cons, List.length_nil, vcM, List.getElem?_toArray, List.getElem?_cons_zero, List.getElem?_cons_succ])
        (refine W_at c11_ok ?_; refine ⟨_, rfl, ?_⟩; simp (disch := first | omega | assumption | rfl | (simp only [vcS] <;> omega) | fail) only [↓ptV_l, ↓vcA, vcB, ↓vcD, vcE, ↓reduceIte, Nat.reduceEqDiff, Nat.reduceAdd, Nat.reduceMul, Nat.reduceLeDiff, Int.reduceLE, Int.reduceLT, Int.reduceEq, Int.reduceToNat, Int.reduceAdd, Int.reduceSub, Int.reduceMul, Int.reduceNeg, reduceCtorEq, Option.bind_some, Option.map_some, List.length_cons, List.length_nil, vcM, List.getElem?_toArray, List.getElem?_cons_zero, List.getElem?_cons_succ, h4, hq, hq2, hm, hw8, hws, hwu, bq, b1, Int.toNat_natCast, Nat.mul_one, Nat.zero_add, hel, hsh, cvi8])
        refine ⟨a1, ?_⟩
        have h4k := e1.at h4 (by omega)
        have h2k := e1.at h2 (by omega)
        have hEk := hEz.trans e1 fun x hx e => by omega
        generalize World.setCell _ _ _ = wk at c1 h4k h2k hEk ⊢
        (refine W_at c11_ok ?_; refine ⟨_, rfl, ?_⟩; simp (disch := first | omega | assumption | rfl | (simp only [vcS] <;> omega) | fail) only [↓ptV_l, ↓vcA, vcB, ↓vcD, vcE, ↓reduceIte, Nat.reduceEqDiff, Nat.reduceAdd, Nat.reduceMul, Nat.reduceLeDiff, Int.reduceLE, Int.reduceLT, Int.reduceEq, Int.reduceToNat, Int.reduceAdd, Int.reduceSub, Int.reduceMul, Int.reduceNeg, reduceCtorEq, Option.bind_some, Option.map_some, List.length_cons, List.length_nil, vcM, List.getElem?_toArray, List.getElem?_cons_zero, List.getElem?_cons_succ, hwi])
        (refine W_at c11_ok ?_; refine ⟨_, rfl, ?_⟩; simp (disch := first | omega | assumption | rfl | (simp only [vcS] <;> omega) | fail) only [↓ptV_l, ↓vcA, vcB, ↓vcD, vcE, ↓reduceIte, Nat.reduceEqDiff, Nat.reduceAdd, Nat.reduceMul, Nat.reduceLeDiff, Int.reduceLE, Int.reduceLT, Int.reduceEq, Int.reduceToNat, Int.reduceAdd, Int.reduceSub, Int.reduceMul, Int.reduceNeg, reduceCtorEq, Option.bind_some, Option.map_some, List.length_cons, List.length_nil, vcM, List.getElem?_toArray, List.getElem?_cons_zero, List.getElem?_cons_succ])
        exact ih (i + 1) wk (by omega) c1 h4k h2k hEk
    exact LE 32 0 wa (by omega) h18 h4a h2a (hE.ext hEa)
  have L : ∀ (k j : Nat) (wj : World), j + k = nb + 1 → wj.heap[p4]? = some (.cells (wcs (runN j iv mm).list) 28 (0, 0)) → wj.heap[p2]? = some (.cells (bv (List.replicate 32 0)).toArray 38 (0, 0)) → wj.heap[p3]? = some (.cells (wcs kL) 60 (0, 0)) → Own1 wj mv mm → Ext w wj →
      W Try.prog (Ret fun u w' => u = .agg (bv (outF (runN (nb + 1) iv mm))).toArray ∧ Ext w w') 11 48 [(2, .pointer (some ⟨p2, 0, none⟩)), (3, .pointer (some ⟨p3, 0, none⟩)), (4, .pointer (some ⟨p4, 0, none⟩)), (5, mv), (6, .int .i64 ((64 * j : Nat) : Int))] wj := by
    intro k
    induction k with
    | zero =>
      intro j wj hj h4 h2 h3 hO hE
      obtain rfl : j = nb + 1 := by omega
      have hlm := hO.rd.len
      have hno : ¬ ((64 * (nb + 1) : Nat) : Int) < (mm.length : Nat) := by omega
      (refine W_at c11_ok ?_; refine ⟨_, rfl, ?_⟩; simp (disch := first | omega | assumption | rfl | (simp only [vcS] <;> omega) | fail) only [↓ptV_l, ↓vcA, vcB, ↓vcD, vcE, ↓reduceIte, Nat.reduceEqDiff, Nat.reduceAdd, Nat.reduceMul, Nat.reduceLeDiff, Int.reduceLE, Int.reduceLT, Int.reduceEq, Int.reduceToNat, Int.reduceAdd, Int.reduceSub, Int.reduceMul, Int.reduceNeg, reduceCtorEq, Option.bind_some, Option.map_some, List.length_cons, List.length_nil, vcM, List.getElem?_toArray, List.getElem?_cons_zero, List.getElem?_cons_succ, hlm, hno])
      (refine W_at c11_ok ?_; refine ⟨_, rfl, ?_⟩; simp (disch := first | omega | assumption | rfl | (simp only [vcS] <;> omega) | fail) only [↓ptV_l, ↓vcA, vcB, ↓vcD, vcE, ↓reduceIte, Nat.reduceEqDiff, Nat.reduceAdd, Nat.reduceMul, Nat.reduceLeDiff, Int.reduceLE, Int.reduceLT, Int.reduceEq, Int.reduceToNat, Int.reduceAdd, Int.reduceSub, Int.reduceMul, Int.reduceNeg, reduceCtorEq, Option.bind_some, Option.map_some, List.length_cons, List.length_nil, vcM, List.getElem?_toArray, List.getElem?_cons_zero, List.getElem?_cons_succ])
      exact fin wj _ _ h4 h2 hE rfl
    | succ k ih =>
      intro j wj hj h4 h2 h3 hO hE
      have hlm := hO.rd.len
      have hyes : ((64 * j : Nat) : Int) < (mm.length : Nat) := by omega
      have hstep := runN_step mm j
      have hblen : ((mm.drop (64 * j)).take 64).length = 64 := by rw [List.length_take, List.length_drop]; omega
      have hbat : ∀ o, o < 64 → ((mm.drop (64 * j)).take 64).getD o 0 = mm.getD (64 * j + o) 0 := fun o ho => by
        simp only [List.getD, List.getElem?_take_of_lt ho, List.getElem?_drop]
      have hbb : byt ((mm.drop (64 * j)).take 64) := byt_take (byt_drop hmb _) _
      generalize (mm.drop (64 * j)).take 64 = blk at hstep hblen hbat hbb
      have hws := wsF_len blk
      have hcomp : compF (runN j iv mm) blk = (runN j iv mm).add (rndN 64 (runN j iv mm) kL (wsF blk)) := rfl
      generalize hwsd : wsF blk = ws at hws hcomp
      rw [hcomp] at hstep
      generalize runN j iv mm = st at hstep h4
      have hw64 : IntKind.i64.wrap (((64 * j : Nat) : Int) + 64) = ((64 * (j + 1) : Nat) : Int) := by rw [wrap_i64 (by omega) (by omega)]; omega
      (refine W_at c11_ok ?_; refine ⟨_, rfl, ?_⟩; simp (disch := first | omega | assumption | rfl | (simp only [vcS] <;> omega) | fail) only [↓ptV_l, ↓vcA, vcB, ↓vcD, vcE, ↓reduceIte, Nat.reduceEqDiff, Nat.reduceAdd, Nat.reduceMul, Nat.reduceLeDiff, Int.reduceLE, Int.reduceLT, Int.reduceEq, Int.reduceToNat, Int.reduceAdd, Int.reduceSub, Int.reduceMul, Int.reduceNeg, reduceCtorEq, Option.bind_some, Option.map_some, List.length_cons, List.length_nil, vcM, List.getElem?_toArray, List.getElem?_cons_zero, List.getElem?_cons_succ, hlm, hyes])
      (refine W_at c11_ok ?_; refine ⟨_, rfl, ?_⟩; simp (disch := first | omega | assumption | rfl | (simp only [vcS] <;> omega) | fail) only [↓ptV_l, ↓vcA, vcB, ↓vcD, vcE, ↓reduceIte, Nat.reduceEqDiff, Nat.reduceAdd, Nat.reduceMul, Nat.reduceLeDiff, Int.reduceLE, Int.reduceLT, Int.reduceEq, Int.reduceToNat, Int.reduceAdd, Int.reduceSub, Int.reduceMul, Int.reduceNeg, reduceCtorEq, Option.bind_some, Option.map_some, List.length_cons, List.length_nil, vcM, List.getElem?_toArray, List.getElem?_cons_zero, List.getElem?_cons_succ])
      (refine W_at c11_ok ?_; refine ⟨_, rfl, ?_⟩; simp (disch := first | omega | assumption | rfl | (simp only [vcS] <;> omega) | fail) only [↓ptV_l, ↓vcA, vcB, ↓vcD, vcE, ↓reduceIte, Nat.reduceEqDiff, Nat.reduceAdd, Nat.reduceMul, Nat.reduceLeDiff, Int.reduceLE, Int.reduceLT, Int.reduceEq, Int.reduceToNat, Int.reduceAdd, Int.reduceSub, Int.reduceMul, Int.reduceNeg, reduceCtorEq, Option.bind_some, Option.map_some, List.length_cons, List.length_nil, vcM, List.getElem?_toArray, List.getElem?_cons_zero, List.getElem?_cons_succ])
      have hEa : Ext wj (wj.alloc (.cells (zc [(64, .int .u32 0)]) 60)) := (Keep.refl _ wj).alloc _
      have h7 : (wj.alloc (.cells (zc [(64, .int .u32 0)]) 60)).heap[wj.heap.size]? = some (.cells (arrW ws 0) 60 (0, 0)) := by rw [arrW_0]; exact heap_new _ _ _ rfl
      have h4l := lt_of_heap h4
      have h3l := lt_of_heap h3
      have h2l := lt_of_heap h2
      have hml : ∀ g, Go.Proofs.blk mv g → g < wj.heap.size := fun g hg => hO.lt hg
      generalize World.alloc _ _ = wa at hEa h7 ⊢
      generalize hp7e : wj.heap.size = p7 at h7 h4l h3l h2l hml ⊢
      have hEwa := hE.ext hEa
      -- the rest of a block
      have restB : ∀ (wz : World) (tl : Env), wz.heap[p7]? = some (.cells (wcs ws) 60 (0, 0)) → Ext wj wz → W Try.prog (Ret fun u w' => u = .agg (bv (outF (runN (nb + 1) iv mm))).toArray ∧ Ext w w') 11 26 ((2, .pointer (some ⟨p2, 0, none⟩)) :: (3, .pointer (some ⟨p3, 0, none⟩)) :: (4, .pointer (some ⟨p4, 0, none⟩)) :: (5, mv) :: (6, .int .i64 ((64 * j : Nat) : Int)) :: (7, .pointer (some ⟨p7, 0, none⟩)) :: tl) wz := by
        intro wz tl h7 hEz
        have hwz := hE.ext hEz
        have h4z := hEz.at h4 (fun h => h)
        have h2z := hEz.at h2 (fun h => h)
        have h3z := hEz.at h3 (fun h => h)
        have hOz := hO.ext hEz
        have s8 : (wcs st.list).size = 8 := wcs_size _
        have hr8 : rdO (some (.cells (wcs st.list) 28 (0, 0))) 0 8 = some (wcs st.list) := rdO_all _ _ _ _ s8
        (refine W_at c11_ok ?_; refine ⟨_, rfl, ?_⟩; simp (disch := first | omega | assumption | rfl | (simp only [vcS] <;> omega) | fail) only [↓ptV_l, ↓vcA, vcB, ↓vcD, vcE, ↓reduceIte, Nat.reduceEqDiff, Nat.reduceAdd, Nat.reduceMul, Nat.reduceLeDiff, Int.reduceLE, Int.reduceLT, Int.reduceEq, Int.reduceToNat, Int.reduceAdd, Int.reduceSub, Int.reduceMul, Int.reduceNeg, reduceCtorEq, Option.bind_some, Option.map_some, List.length_cons, List.length_nil, vcM, List.getElem?_toArray, List.getElem?_cons_zero, List.getElem?_cons_succ, h4z, hr8, s8])
        have h13 : ((wz.alloc (.cells (zc [(8, .int .u32 0)]) 28)).putN wz.heap.size 0 (wcs st.list)).heap[wz.heap.size]? = some (.cells (wcs st.list) 28 (0, 0)) := by
          rw [heap_putN_eq (heap_new _ _ _ rfl), splice_all (by rfl)]
        have hEb : Ext wz ((wz.alloc (.cells (zc [(8, .int .u32 0)]) 28)).putN wz.heap.size 0 (wcs st.list)) := ((Keep.refl _ wz).alloc _).putN _ (by intro hh; exfalso; omega)
        first | refine ⟨wcs_flat _, ?_⟩ | skip
        have h7l := lt_of_heap h7
        generalize World.putN _ _ _ _ = wb at h13 hEb ⊢
        have hp13e : wz.heap.size ≤ wz.heap.size := Nat.le_refl _
        generalize hp13 : wz.heap.size = p13 at h13 h7l hp13e ⊢
        have h7b := hEb.at h7 (fun h => h)
        have hjb := hEz.ext hEb
        (refine W_at c11_ok ?_; refine ⟨_, rfl, ?_⟩; simp (disch := first | omega | assumption | rfl | (simp only [vcS] <;> omega) | fail) only [↓ptV_l, ↓vcA, vcB, ↓vcD, vcE, ↓reduceIte, Nat.reduceEqDiff, Nat.reduceAdd, Nat.reduceMul, Nat.reduceLeDiff, Int.reduceLE, Int.reduceLT, Int.reduceEq, Int.reduceToNat, Int.reduceAdd, Int.reduceSub, Int.reduceMul, Int.reduceNeg, reduceCtorEq, Option.bind_some, Option.map_some, List.length_cons, List.length_nil, vcM, List.getElem?_toArray, List.getElem?_cons_zero, List.getElem?_cons_succ])
        have LC : ∀ (k t : Nat) (wc : World), t + k = 64 → wc.heap[p13]? = some (.cells (wcs (rndN t st kL ws).list) 28 (0, 0)) → wc.heap[p7]? = some (.cells (wcs ws) 60 (0, 0)) → Ext wj wc → W Try.prog (Ret fun u w' => u = .agg (bv (outF (runN (nb + 1) iv mm))).toArray ∧ Ext w w') 11 24 [(2, .pointer (some ⟨p2, 0, none⟩)), (3, .pointer (some ⟨p3, 0, none⟩)), (4, .pointer (some ⟨p4, 0, none⟩)), (5, mv), (6, .int .i64 ((64 * j : Nat) : Int)), (7, .pointer (some ⟨p7, 0, none⟩)), (13, .pointer (some ⟨p13, 0, none⟩)), (14, .int .i64 (t : Nat))] wc := by
          intro k
          induction k with
          | zero =>
            intro t wc ht h13 h7 hEc
            obtain rfl : t = 64 := by omega
            (refine W_at c11_ok ?_; refine ⟨_, rfl, ?_⟩; simp (disch := first | omega | assumption | rfl | (simp only [vcS] <;> omega) | fail) only [↓ptV_l, ↓vcA, vcB, ↓vcD, vcE, ↓reduceIte, Nat.reduceEqDiff, Nat.reduceAdd, Nat.reduceMul, Nat.reduceLeDiff, Int.reduceLE, Int.reduceLT, Int.reduceEq, Int.reduceToNat, Int.reduceAdd, Int.reduceSub, Int.reduceMul, Int.reduceNeg, reduceCtorEq, Option.bind_some, Option.map_some, List.length_cons, List.length_nil, vcM, List.getElem?_toArray, List.getElem?_cons_zero, List.getElem?_cons_succ])
            (refine W_at c11_ok ?_; refine ⟨_, rfl, ?_⟩; simp (disch := first | omega | assumption | rfl | (simp only [vcS] <;> omega) | fail) only [↓ptV_l, ↓vcA, vcB, ↓vcD, vcE, ↓reduceIte, Nat.reduceEqDiff, Nat.reduceAdd, Nat.reduceMul, Nat.reduceLeDiff, Int.reduceLE, Int.reduceLT, Int.reduceEq, Int.reduceToNat, Int.reduceAdd, Int.reduceSub, Int.reduceMul, Int.reduceNeg, reduceCtorEq, Option.bind_some, Option.map_some, List.length_cons, List.length_nil, vcM, List.getElem?_toArray, List.getElem?_cons_zero, List.getElem?_cons_succ])
            (refine W_at c11_ok ?_; refine ⟨_, rfl, ?_⟩; simp (disch := first | omega | assumption | rfl | (simp only [vcS] <;> omega) | fail) only [↓ptV_l, ↓vcA, vcB, ↓vcD, vcE, ↓reduceIte, Nat.reduceEqDiff, Nat.reduceAdd, Nat.reduceMul, Nat.reduceLeDiff, Int.reduceLE, Int.reduceLT, Int.reduceEq, Int.reduceToNat, Int.reduceAdd, Int.reduceSub, Int.reduceMul, Int.reduceNeg, reduceCtorEq, Option.bind_some, Option.map_some, List.length_cons, List.length_nil, vcM, List.getElem?_toArray, List.getElem?_cons_zero, List.getElem?_cons_succ])
            generalize rndN 64 st kL ws = v at hstep h13
            have h4c := hEc.at h4 (fun h => h)
            rw [show wcs st.list = addA st v [] 0 from rfl] at h4c
            have LD : ∀ (k i : Nat) (wd : World), i + k = 8 → wd.heap[p4]? = some (.cells (addA st v [] i) 28 (0, 0)) → wd.heap[p13]? = some (.cells (wcs v.list) 28 (0, 0)) → Keep (fun y => y = p4) wj wd → W Try.prog (Ret fun u w' => u = .agg (bv (outF (runN (nb + 1) iv mm))).toArray ∧ Ext w w') 11 16 [(2, .pointer (some ⟨p2, 0, none⟩)), (3, .pointer (some ⟨p3, 0, none⟩)), (4, .pointer (some ⟨p4, 0, none⟩)), (5, mv), (6, .int .i64 ((64 * j : Nat) : Int)), (13, .pointer (some ⟨p13, 0, none⟩)), (17, .int .i64 (i : Nat))] wd := by
              intro k
              induction k with
              | zero =>
                intro i wd hi h4d h13d hK
                obtain rfl : i = 8 := by omega
                rw [addA_8, List.append_nil] at h4d
                (refine W_at c11_ok ?_; refine ⟨_, rfl, ?_⟩; simp (disch := first | omega | assumption | rfl | (simp only [vcS] <;> omega) | fail) only [↓ptV_l, ↓vcA, vcB, ↓vcD, vcE, ↓reduceIte, Nat.reduceEqDiff, Nat.reduceAdd, Nat.reduceMul, Nat.reduceLeDiff, Int.reduceLE, Int.reduceLT, Int.reduceEq, Int.reduceToNat, Int.reduceAdd, Int.reduceSub, Int.reduceMul, Int.reduceNeg, reduceCtorEq, Option.bind_some, Option.map_some, List.length_cons, List.length_nil, vcM, List.getElem?_toArray, List.getElem?_cons_zero, List.getElem?_cons_succ])
                (refine W_at c11_ok ?_; refine ⟨_, rfl, ?_⟩; simp (disch := first | omega | assumption | rfl | (simp only [vcS] <;> omega) | fail) only [↓ptV_l, ↓vcA, vcB, ↓vcD, vcE, ↓reduceIte, Nat.reduceEqDiff, Nat.reduceAdd, Nat.reduceMul, Nat.reduceLeDiff, Int.reduceLE, Int.reduceLT, Int.reduceEq, Int.reduceToNat, Int.reduceAdd, Int.reduceSub, Int.reduceMul, Int.reduceNeg, reduceCtorEq, Option.bind_some, Option.map_some, List.length_cons, List.length_nil, vcM, List.getElem?_toArray, List.getElem?_cons_zero, List.getElem?_cons_succ])
                (refine W_at c11_ok ?_; refine ⟨_, rfl, ?_⟩; simp (disch := first | omega | assumption | rfl | (simp only [vcS] <;> omega) | fail) only [↓ptV_l, ↓vcA, vcB, ↓vcD, vcE, ↓reduceIte, Nat.reduceEqDiff, Nat.reduceAdd, Nat.reduceMul, Nat.reduceLeDiff, Int.reduceLE, Int.reduceLT, Int.reduceEq, Int.reduceToNat, Int.reduceAdd, Int.reduceSub, Int.reduceMul, Int.reduceNeg, reduceCtorEq, Option.bind_some, Option.map_some, List.length_cons, List.length_nil, vcM, List.getElem?_toArray, List.getElem?_cons_zero, List.getElem?_cons_succ, hw64])
                (refine W_at c11_ok ?_; refine ⟨_, rfl, ?_⟩; simp (disch := first | omega | assumption | rfl | (simp only [vcS] <;> omega) | fail) only [↓ptV_l, ↓vcA, vcB, ↓vcD, vcE, ↓reduceIte, Nat.reduceEqDiff, Nat.reduceAdd, Nat.reduceMul, Nat.reduceLeDiff, Int.reduceLE, Int.reduceLT, Int.reduceEq, Int.reduceToNat, Int.reduceAdd, Int.reduceSub, Int.reduceMul, Int.reduceNeg, reduceCtorEq, Option.bind_some, Option.map_some, List.length_cons, List.length_nil, vcM, List.getElem?_toArray, List.getElem?_cons_zero, List.getElem?_cons_succ])
                refine ih (j + 1) wd (by omega) (by rw [hstep]; exact h4d) (hK.at h2 (by omega)) (hK.at h3 (by omega)) (hO.keep hK fun g hg e => ?_) (hE.trans hK fun i hi e => by omega)
                subst e
                obtain ⟨c, hc⟩ := row_type hO hg
                rw [h4] at hc; cases hc
              | succ k ihD =>
                intro i wd hi h4d h13d hK
                have hlt : ((i : Nat) : Int) < 8 := by omega
                have b1 : 0 ≤ ((i : Nat) : Int) ∧ ((i : Nat) : Int) < 8 := by omega
                have hwi : IntKind.i64.wrap (((i : Nat) : Int) + 1) = ((i + 1 : Nat) : Int) := wrap_i64 (by omega) (by omega)
                have e1 := addA_at st v [] i (by omega)
                have e2 := wcs8_at v i (by omega)
                have e3 := addA_set st v [] i (by omega)
                have hsz := addA_size st v [] i (by omega)
                (refine W_at c11_ok ?_; refine ⟨_, rfl, ?_⟩; simp (disch := first | omega | assumption | rfl | (simp only [vcS] <;> omega) | fail) only [↓ptV_l, ↓vcA, vcB, ↓vcD, vcE, ↓reduceIte, Nat.reduceEqDiff, Nat.reduceAdd, Nat.reduceMul, Nat.reduceLeDiff, Int.reduceLE, Int.reduceLT, Int.reduceEq, Int.reduceToNat, Int.reduceAdd, Int.reduceSub, Int.reduceMul, Int.reduceNeg, reduceCtorEq, Option.bind_some, Option.map_some, List.length_cons, List.length_nil, vcM, List.getElem?_toArray, List.getElem?_cons_zero, List.getElem?_cons_succ, hlt])
                (refine W_at c11_ok ?_; refine ⟨_, rfl, ?_⟩; simp (disch := first | omega | assumption | rfl | (simp only [vcS] <;> omega) | fail) only [↓ptV_l, ↓vcA, vcB, ↓vcD, vcE, ↓reduceIte, Nat.reduceEqDiff, Nat.reduceAdd, Nat.reduceMul, Nat.reduceLeDiff, Int.reduceLE, Int.reduceLT, Int.reduceEq, Int.reduceToNat, Int.reduceAdd, Int.reduceSub, Int.reduceMul, Int.reduceNeg, reduceCtorEq, Option.bind_some, Option.map_some, List.length_cons, List.length_nil, vcM, List.getElem?_toArray, List.getElem?_cons_zero, List.getElem?_cons_succ])
                (refine W_at c11_ok ?_; refine ⟨_, rfl, ?_⟩; simp (disch := first | omega | assumption | rfl | (simp only [vcS] <;> omega) | fail) only [↓ptV_l, ↓vcA, vcB, ↓vcD, vcE, ↓reduceIte, Nat.reduceEqDiff, Nat.reduceAdd, Nat.reduceMul, Nat.reduceLeDiff, Int.reduceLE, Int.reduceLT, Int.reduceEq, Int.reduceToNat, Int.reduceAdd, Int.reduceSub, Int.reduceMul, Int.reduceNeg, reduceCtorEq, Option.bind_some, Option.map_some, List.length_cons, List.length_nil, vcM, List.getElem?_toArray, List.getElem?_cons_zero, List.getElem?_cons_succ, h4d, h13d, b1, Int.toNat_natCast, Nat.mul_one, Nat.zero_add, e1, e2, U32_add])
                have h4e : wd.drew.heap[p4]? = some (.cells (addA st v [] i) 28 (0, 0)) := h4d
                have h13e : wd.drew.heap[p13]? = some (.cells (wcs v.list) 28 (0, 0)) := h13d
                have hKe := hK.drew
                generalize wd.drew = we at h4e h13e hKe ⊢
                refine ⟨rfl, wr1_of h4e (by rw [hsz]; omega), ?_⟩
                have h4f : (we.setCell ⟨p4, i, none⟩ (U32 (st.list.getD i 0 + v.list.getD i 0))).heap[p4]? = some (.cells (addA st v [] (i + 1)) 28 (0, 0)) := by rw [heap_setCell_eq h4e, e3]
                have kf : Keep (fun x => x = p4) we (we.setCell ⟨p4, i, none⟩ (U32 (st.list.getD i 0 + v.list.getD i 0))) := (Keep.refl _ we).setCell _ fun _ => rfl
                have h13f := kf.at h13e (by omega)
                generalize World.setCell _ _ _ = wf at h4f kf h13f ⊢
                (refine W_at c11_ok ?_; refine ⟨_, rfl, ?_⟩; simp (disch := first | omega | assumption | rfl | (simp only [vcS] <;> omega) | fail) only [↓ptV_l, ↓vcA, vcB, ↓vcD, vcE, ↓reduceIte, Nat.reduceEqDiff, Nat.reduceAdd, Nat.reduceMul, Nat.reduceLeDiff, Int.reduceLE, Int.reduceLT, Int.reduceEq, Int.reduceToNat, Int.reduceAdd, Int.reduceSub, Int.reduceMul, Int.reduceNeg, reduceCtorEq, Option.bind_some, Option.map_some, List.length_cons, List.length_nil, vcM, List.getElem?_toArray, List.getElem?_cons_zero, List.getElem?_cons_succ, hwi])
                (refine W_at c11_ok ?_; refine ⟨_, rfl, ?_⟩; simp (disch := first | omega | assumption | rfl | (simp only [vcS] <;> omega) | fail) only [↓ptV_l, ↓vcA, vcB, ↓vcD, vcE, ↓reduceIte, Nat.reduceEqDiff, Nat.reduceAdd, Nat.reduceMul, Nat.reduceLeDiff, Int.reduceLE, Int.reduceLT, Int.reduceEq, Int.reduceToNat, Int.reduceAdd, Int.reduceSub, Int.reduceMul, Int.reduceNeg, reduceCtorEq, Option.bind_some, Option.map_some, List.length_cons, List.length_nil, vcM, List.getElem?_toArray, List.getElem?_cons_zero, List.getElem?_cons_succ])
                exact ihD (i + 1) wf (by omega) h4f h13f (hKe.trans kf fun _ _ h => h)
            exact LD 8 0 wc (by omega) h4c h13 (hEc.mono fun _ h => h.elim)
          | succ k ihC =>
            intro t wc ht h13 h7 hEc
            have hlt : ((t : Nat) : Int) < 64 := by omega
            have b1 : 0 ≤ ((t : Nat) : Int) ∧ ((t : Nat) : Int) < 64 := by omega
            have hwi : IntKind.i64.wrap (((t : Nat) : Int) + 1) = ((t + 1 : Nat) : Int) := wrap_i64 (by omega) (by omega)
            have hkl64 := kL_len
            have hrs := rndN_snoc t st kL ws (by omega) (by omega)
            have hwsi : (wcs ws)[t]? = some (U32 (ws[t]'(by omega))) := by simp [wcs, List.getElem?_eq_getElem (show t < ws.length by omega)]
            have hki : (wcs kL)[t]? = some (U32 (kL[t]'(by omega))) := by simp [wcs, List.getElem?_eq_getElem (show t < kL.length by omega)]
            have h3c := hEc.at h3 (fun h => h)
            generalize ws[t]'(by omega) = xi at hrs hwsi
            generalize kL[t]'(by omega) = ki at hrs hki
            generalize rndN t st kL ws = s at hrs h13
            have v0 : (wcs s.list)[0]? = some (U32 s.a) := rfl
            have v1 : (wcs s.list)[1]? = some (U32 s.b) := rfl
            have v2 : (wcs s.list)[2]? = some (U32 s.c) := rfl
            have v3 : (wcs s.list)[3]? = some (U32 s.d) := rfl
            have v4 : (wcs s.list)[4]? = some (U32 s.e) := rfl
            have v5 : (wcs s.list)[5]? = some (U32 s.f) := rfl
            have v6 : (wcs s.list)[6]? = some (U32 s.g) := rfl
            have v7 : (wcs s.list)[7]? = some (U32 s.h) := rfl
            (refine W_at c11_ok ?_; refine ⟨_, rfl, ?_⟩; simp (disch := first | omega | assumption | rfl | (simp only [vcS] <;> omega) | fail) only [↓ptV_l, ↓vcA, vcB, ↓vcD, vcE, ↓reduceIte, Nat.reduceEqDiff, Nat.reduceAdd, Nat.reduceMul, Nat.reduceLeDiff, Int.reduceLE, Int.reduceLT, Int.reduceEq, Int.reduceToNat, Int.reduceAdd, Int.reduceSub, Int.reduceMul, Int.reduceNeg, reduceCtorEq, Option.bind_some, Option.map_some, List.length_cons, List.length_nil, vcM, List.getElem?_toArray, List.getElem?_cons_zero, List.getElem?_cons_succ, hlt])
            (refine W_at c11_ok ?_; refine ⟨_, rfl, ?_⟩; simp (disch := first | omega | assumption | rfl | (simp only [vcS] <;> omega) | fail) only [↓ptV_l, ↓vcA, vcB, ↓vcD, vcE, ↓reduceIte, Nat.reduceEqDiff, Nat.reduceAdd, Nat.reduceMul, Nat.reduceLeDiff, Int.reduceLE, Int.reduceLT, Int.reduceEq, Int.reduceToNat, Int.reduceAdd, Int.reduceSub, Int.reduceMul, Int.reduceNeg, reduceCtorEq, Option.bind_some, Option.map_some, List.length_cons, List.length_nil, vcM, List.getElem?_toArray, List.getElem?_cons_zero, List.getElem?_cons_succ])
            (refine W_at c11_ok ?_; refine ⟨_, rfl, ?_⟩; simp (disch := first | omega | assumption | rfl | (simp only [vcS] <;> omega) | fail) only [↓vcL1, ptS2_eq, ↓vcA, vcB, ↓vcD, vcE, ↓reduceIte, Nat.reduceEqDiff, Nat.reduceAdd, Nat.reduceMul, Nat.reduceLeDiff, Int.reduceLE, Int.reduceLT, Int.reduceEq, Int.reduceToNat, Int.reduceAdd, Int.reduceSub, Int.reduceMul, Int.reduceNeg, reduceCtorEq, Option.bind_some, Option.map_some, List.length_cons, List.length_nil, vcM, List.getElem?_toArray, List.getElem?_cons_zero, List.getElem?_cons_succ, h13, h7, h3c, v4, v5, v6, v7, b1, Int.toNat_natCast, Nat.mul_one, Nat.zero_add, hki, hwsi, U32_and, U32_xor, U32_not])
            have hEd : Ext wc wc.drew := (Keep.refl _ wc).drew
            have h13d := hEd.at h13 (fun h => h)
            have h7d := hEd.at h7 (fun h => h)
            have h3d := hEd.at h3c (fun h => h)
            have hEjd := hEc.ext hEd
            generalize wc.drew = wd at h13d h7d h3d hEjd ⊢
            clear hEd
            refine callV_ret (rrot_ok wd s.e 26 6 (by decide) (by decide) (by decide)) ?_
            rintro _ wq ⟨rfl, hw⟩
            obtain rfl : wd = wq := hw.symm
            simp (disch := first | omega | assumption | rfl | (simp only [vcS] <;> omega) | fail) only [↓vcL2, ptS1_eq, ↓vcA, vcB, ↓vcD, vcE, ↓reduceIte, Nat.reduceEqDiff, Nat.reduceAdd, Nat.reduceMul, Nat.reduceLeDiff, Int.reduceLE, Int.reduceLT, Int.reduceEq, Int.reduceToNat, Int.reduceAdd, Int.reduceSub, Int.reduceMul, Int.reduceNeg, reduceCtorEq, Option.bind_some, Option.map_some, List.length_cons, List.length_nil, vcM, List.getElem?_toArray, List.getElem?_cons_zero, List.getElem?_cons_succ, h13d, h7d, h3d, v4, v5, v6, v7, hki, hwsi, U32_xor, U32_add]
            refine callV_ret (rrot_ok wd s.e 21 11 (by decide) (by decide) (by decide)) ?_
            rintro _ wq ⟨rfl, hw⟩
            obtain rfl : wd = wq := hw.symm
            simp (disch := first | omega | assumption | rfl | (simp only [vcS] <;> omega) | fail) only [↓vcL1, ptS2_eq, ↓vcA, vcB, ↓vcD, vcE, ↓reduceIte, Nat.reduceEqDiff, Nat.reduceAdd, Nat.reduceMul, Nat.reduceLeDiff, Int.reduceLE, Int.reduceLT, Int.reduceEq, Int.reduceToNat, Int.reduceAdd, Int.reduceSub, Int.reduceMul, Int.reduceNeg, reduceCtorEq, Option.bind_some, Option.map_some, List.length_cons, List.length_nil, vcM, List.getElem?_toArray, List.getElem?_cons_zero, List.getElem?_cons_succ, h13d, h7d, h3d, v4, v5, v6, v7, hki, hwsi, U32_xor, U32_add]
            refine callV_ret (rrot_ok wd s.e 7 25 (by decide) (by decide) (by decide)) ?_
            rintro _ wq ⟨rfl, hw⟩
            obtain rfl : wd = wq := hw.symm
            simp (disch := first | omega | assumption | rfl | (simp only [vcS] <;> omega) | fail) only [↓vcL2, ptS1_eq, ↓vcA, vcB, ↓vcD, vcE, ↓reduceIte, Nat.reduceEqDiff, Nat.reduceAdd, Nat.reduceMul, Nat.reduceLeDiff, Int.reduceLE, Int.reduceLT, Int.reduceEq, Int.reduceToNat, Int.reduceAdd, Int.reduceSub, Int.reduceMul, Int.reduceNeg, reduceCtorEq, Option.bind_some, Option.map_some, List.length_cons, List.length_nil, vcM, List.getElem?_toArray, List.getElem?_cons_zero, List.getElem?_cons_succ, h13d, h7d, h3d, v4, v5, v6, v7, hki, hwsi, U32_xor, U32_add]
            first | (simp (disch := first | omega | assumption | rfl | (simp only [vcS] <;> omega) | fail) only [↓vcL2, ptS1_eq, ↓vcA, vcB, ↓vcD, vcE, ↓reduceIte, Nat.reduceEqDiff, Nat.reduceAdd, Nat.reduceMul, Nat.reduceLeDiff, Int.reduceLE, Int.reduceLT, Int.reduceEq, Int.reduceToNat, Int.reduceAdd, Int.reduceSub, Int.reduceMul, Int.reduceNeg, reduceCtorEq, Option.bind_some, Option.map_some, List.length_cons, List.length_nil, vcM, List.getElem?_toArray, List.getElem?_cons_zero, List.getElem?_cons_succ, h13d, h7d, h3d, v4, v5, v6, v7, hki, hwsi, U32_xor, U32_add]) | skip
            have et : t1F s ki xi = s.h + (rotF 6 s.e ^^^ rotF 11 s.e ^^^ rotF 25 s.e) + (s.e &&& s.f ^^^ ~~~s.e &&& s.g) + ki + xi := rfl
            rw [← et]
            have eu : t2F s = (rotF 2 s.a ^^^ rotF 13 s.a ^^^ rotF 22 s.a) + (s.a &&& s.b ^^^ s.a &&& s.c ^^^ s.b &&& s.c) := rfl
            (refine W_at c11_ok ?_; refine ⟨_, rfl, ?_⟩; simp (disch := first | omega | assumption | rfl | (simp only [vcS] <;> omega) | fail) only [↓vcL1, ptS2_eq, ↓vcA, vcB, ↓vcD, vcE, ↓reduceIte, Nat.reduceEqDiff, Nat.reduceAdd, Nat.reduceMul, Nat.reduceLeDiff, Int.reduceLE, Int.reduceLT, Int.reduceEq, Int.reduceToNat, Int.reduceAdd, Int.reduceSub, Int.reduceMul, Int.reduceNeg, reduceCtorEq, Option.bind_some, Option.map_some, List.length_cons, List.length_nil, vcM, List.getElem?_toArray, List.getElem?_cons_zero, List.getElem?_cons_succ, h13d, v0, v1, v2, U32_and, U32_xor])
            have hEd2 : Ext wd wd.drew := (Keep.refl _ wd).drew
            have h13e := hEd2.at h13d (fun h => h)
            have h7e := hEd2.at h7d (fun h => h)
            have hEje := hEjd.ext hEd2
            generalize wd.drew = we at h13e h7e hEje ⊢
            clear hEd2
            refine callV_ret (rrot_ok we s.a 30 2 (by decide) (by decide) (by decide)) ?_
            rintro _ wq ⟨rfl, hw⟩
            obtain rfl : we = wq := hw.symm
            simp (disch := first | omega | assumption | rfl | (simp only [vcS] <;> omega) | fail) only [↓vcL2, ptS1_eq, ↓vcA, vcB, ↓vcD, vcE, ↓reduceIte, Nat.reduceEqDiff, Nat.reduceAdd, Nat.reduceMul, Nat.reduceLeDiff, Int.reduceLE, Int.reduceLT, Int.reduceEq, Int.reduceToNat, Int.reduceAdd, Int.reduceSub, Int.reduceMul, Int.reduceNeg, reduceCtorEq, Option.bind_some, Option.map_some, List.length_cons, List.length_nil, vcM, List.getElem?_toArray, List.getElem?_cons_zero, List.getElem?_cons_succ, h13e, v0, v1, v2, U32_xor, U32_add]
            refine callV_ret (rrot_ok we s.a 19 13 (by decide) (by decide) (by decide)) ?_
            rintro _ wq ⟨rfl, hw⟩
            obtain rfl : we = wq := hw.symm
            simp (disch := first | omega | assumption | rfl | (simp only [vcS] <;> omega) | fail) only [↓vcL1, ptS2_eq, ↓vcA, vcB, ↓vcD, vcE, ↓reduceIte, Nat.reduceEqDiff, Nat.reduceAdd, Nat.reduceMul, Nat.reduceLeDiff, Int.reduceLE, Int.reduceLT, Int.reduceEq, Int.reduceToNat, Int.reduceAdd, Int.reduceSub, Int.reduceMul, Int.reduceNeg, reduceCtorEq, Option.bind_some, Option.map_some, List.length_cons, List.length_nil, vcM, List.getElem?_toArray, List.getElem?_cons_zero, List.getElem?_cons_succ, h13e, v0, v1, v2, U32_xor, U32_add]
            refine callV_ret (rrot_ok we s.a 10 22 (by decide) (by decide) (by decide)) ?_
            rintro _ wq ⟨rfl, hw⟩
            obtain rfl : we = wq := hw.symm
            simp (disch := first | omega | assumption | rfl | (simp only [vcS] <;> omega) | fail) only [↓vcL2, ptS1_eq, ↓vcA, vcB, ↓vcD, vcE, ↓reduceIte, Nat.reduceEqDiff, Nat.reduceAdd, Nat.reduceMul, Nat.reduceLeDiff, Int.reduceLE, Int.reduceLT, Int.reduceEq, Int.reduceToNat, Int.reduceAdd, Int.reduceSub, Int.reduceMul, Int.reduceNeg, reduceCtorEq, Option.bind_some, Option.map_some, List.length_cons, List.length_nil, vcM, List.getElem?_toArray, List.getElem?_cons_zero, List.getElem?_cons_succ, h13e, v0, v1, v2, U32_xor, U32_add]
            rw [← eu]
            unfold rnd at hrs
            generalize t1F s ki xi = tt at hrs ⊢
            generalize t2F s = uu at hrs ⊢
            (refine W_at c11_ok ?_; refine ⟨_, rfl, ?_⟩; simp (disch := first | omega | assumption | rfl | (simp only [vcS] <;> omega) | fail) only [↓ptV_l, ↓vcA, vcB, ↓vcD, vcE, ↓reduceIte, Nat.reduceEqDiff, Nat.reduceAdd, Nat.reduceMul, Nat.reduceLeDiff, Int.reduceLE, Int.reduceLT, Int.reduceEq, Int.reduceToNat, Int.reduceAdd, Int.reduceSub, Int.reduceMul, Int.reduceNeg, reduceCtorEq, Option.bind_some, Option.map_some, List.length_cons, List.length_nil, vcM, List.getElem?_toArray, List.getElem?_cons_zero, List.getElem?_cons_succ, h13e, v0, v1, v2, v3, v4, v5, v6, U32_add, U32_cells])
            have e9 : (#[U32 (tt + uu)] ++ (#[U32 s.a] ++ (#[U32 s.b] ++ (#[U32 s.c] ++ (#[U32 (s.d + tt)] ++ (#[U32 s.e] ++ #[U32 s.f, U32 s.g]))))) : Array Value) = wcs (rndN (t + 1) st kL ws).list := by rw [hrs]; exact wcs8_bld _ _ _ _ _ _ _ _
            rw [e9]
            have hsw : (wcs s.list).size = 8 := wcs_size _
            refine ⟨wcs8_size _, wcs_flat _, by rw [hsw]; exact Nat.le_refl _, ?_⟩
            have h13f : (we.putN p13 0 (wcs (rndN (t + 1) st kL ws).list)).heap[p13]? = some (.cells (wcs (rndN (t + 1) st kL ws).list) 28 (0, 0)) := by
              rw [heap_putN_eq h13e, splice_all (by rw [wcs8_size, wcs8_size])]
            have kf : Keep (fun x => x = p13) we (we.putN p13 0 (wcs (rndN (t + 1) st kL ws).list)) := (Keep.refl _ we).putN _ fun _ => rfl
            generalize World.putN _ _ _ _ = wf at h13f kf ⊢
            have h7f := kf.at h7e (by omega)
            (refine W_at c11_ok ?_; refine ⟨_, rfl, ?_⟩; simp (disch := first | omega | assumption | rfl | (simp only [vcS] <;> omega) | fail) only [↓ptV_l, ↓vcA, vcB, ↓vcD, vcE, ↓reduceIte, Nat.reduceEqDiff, Nat.reduceAdd, Nat.reduceMul, Nat.reduceLeDiff, Int.reduceLE, Int.reduceLT, Int.reduceEq, Int.reduceToNat, Int.reduceAdd, Int.reduceSub, Int.reduceMul, Int.reduceNeg, reduceCtorEq, Option.bind_some, Option.map_some, List.length_cons, List.length_nil, vcM, List.getElem?_toArray, List.getElem?_cons_zero, List.getElem?_cons_succ, hwi])
            (refine W_at c11_ok ?_; refine ⟨_, rfl, ?_⟩; simp (disch := first | omega | assumption | rfl | (simp only [vcS] <;> omega) | fail) only [↓ptV_l, ↓vcA, vcB, ↓vcD, vcE, ↓reduceIte, Nat.reduceEqDiff, Nat.reduceAdd, Nat.reduceMul, Nat.reduceLeDiff, Int.reduceLE, Int.reduceLT, Int.reduceEq, Int.reduceToNat, Int.reduceAdd, Int.reduceSub, Int.reduceMul, Int.reduceNeg, reduceCtorEq, Option.bind_some, Option.map_some, List.length_cons, List.length_nil, vcM, List.getElem?_toArray, List.getElem?_cons_zero, List.getElem?_cons_succ])
            exact ihC (t + 1) wf (by omega) h13f h7f (hEje.trans kf fun i hi e => by omega)
        exact LC 64 0 wb (by omega) h13 h7b hjb
      have LB : ∀ (k t : Nat) (wz : World), t + k = 64 → 16 ≤ t → wz.heap[p7]? = some (.cells (arrW ws t) 60 (0, 0)) → Ext wj wz → W Try.prog (Ret fun u w' => u = .agg (bv (outF (runN (nb + 1) iv mm))).toArray ∧ Ext w w') 11 33 [(2, .pointer (some ⟨p2, 0, none⟩)), (3, .pointer (some ⟨p3, 0, none⟩)), (4, .pointer (some ⟨p4, 0, none⟩)), (5, mv), (6, .int .i64 ((64 * j : Nat) : Int)), (7, .pointer (some ⟨p7, 0, none⟩)), (10, .int .i64 (t : Nat))] wz := by
        intro k
        induction k with
        | zero =>
          intro t wz ht h16 h7 hEz
          obtain rfl : t = 64 := by omega
          rw [arrW_all ws hws] at h7
          (refine W_at c11_ok ?_; refine ⟨_, rfl, ?_⟩; simp (disch := first | omega | assumption | rfl | (simp only [vcS] <;> omega) | fail) only [↓ptV_l, ↓vcA, vcB, ↓vcD, vcE, ↓reduceIte, Nat.reduceEqDiff, Nat.reduceAdd, Nat.reduceMul, Nat.reduceLeDiff, Int.reduceLE, Int.reduceLT, Int.reduceEq, Int.reduceToNat, Int.reduceAdd, Int.reduceSub, Int.reduceMul, Int.reduceNeg, reduceCtorEq, Option.bind_some, Option.map_some, List.length_cons, List.length_nil, vcM, List.getElem?_toArray, List.getElem?_cons_zero, List.getElem?_cons_succ])
          (refine W_at c11_ok ?_; refine ⟨_, rfl, ?_⟩; simp (disch := first | omega | assumption | rfl | (simp only [vcS] <;> omega) | fail) only [↓ptV_l, ↓vcA, vcB, ↓vcD, vcE, ↓reduceIte, Nat.reduceEqDiff, Nat.reduceAdd, Nat.reduceMul, Nat.reduceLeDiff, Int.reduceLE, Int.reduceLT, Int.reduceEq, Int.reduceToNat, Int.reduceAdd, Int.reduceSub, Int.reduceMul, Int.reduceNeg, reduceCtorEq, Option.bind_some, Option.map_some, List.length_cons, List.length_nil, vcM, List.getElem?_toArray, List.getElem?_cons_zero, List.getElem?_cons_succ])
          exact restB wz _ h7 hEz
        | succ k ihB =>
          intro t wz ht h16 h7 hEz
          have hlt : ((t : Nat) : Int) < 64 := by omega
          have b1 : 0 ≤ ((t : Nat) : Int) ∧ ((t : Nat) : Int) < 64 := by omega
          have hwi : IntKind.i64.wrap (((t : Nat) : Int) + 1) = ((t + 1 : Nat) : Int) := wrap_i64 (by omega) (by omega)
          have hy := ws_rec blk t h16 (by omega)
          rw [hwsd] at hy
          have hnx : nxtW (ws.take t) = sg1 (ws.getD (t - 2) 0) + ws.getD (t - 7) 0 + sg0 (ws.getD (t - 15) 0) + ws.getD (t - 16) 0 := by
            have hlt : (ws.take t).length = t := by rw [List.length_take]; omega
            have hg : ∀ k, k < t → (ws.take t).getD k 0 = ws.getD k 0 := fun k hk => by simp [List.getD, List.getElem?_take_of_lt hk]
            unfold nxtW
            rw [hlt, hg _ (by omega), hg _ (by omega), hg _ (by omega), hg _ (by omega)]
            ac_rfl
          rw [hnx] at hy
          have s15 : IntKind.i64.wrap (((t : Nat) : Int) - 15) = ((t - 15 : Nat) : Int) := by rw [wrap_i64 (by omega) (by omega)]; omega
          have s2 : IntKind.i64.wrap (((t : Nat) : Int) - 2) = ((t - 2 : Nat) : Int) := by rw [wrap_i64 (by omega) (by omega)]; omega
          have s16 : IntKind.i64.wrap (((t : Nat) : Int) - 16) = ((t - 16 : Nat) : Int) := by rw [wrap_i64 (by omega) (by omega)]; omega
          have s7 : IntKind.i64.wrap (((t : Nat) : Int) - 7) = ((t - 7 : Nat) : Int) := by rw [wrap_i64 (by omega) (by omega)]; omega
          have i15 : 0 ≤ ((t - 15 : Nat) : Int) ∧ ((t - 15 : Nat) : Int) < 64 := by omega
          have i2 : 0 ≤ ((t - 2 : Nat) : Int) ∧ ((t - 2 : Nat) : Int) < 64 := by omega
          have i16 : 0 ≤ ((t - 16 : Nat) : Int) ∧ ((t - 16 : Nat) : Int) < 64 := by omega
          have i7 : 0 ≤ ((t - 7 : Nat) : Int) ∧ ((t - 7 : Nat) : Int) < 64 := by omega
          have a15 := arrW_at ws t (t - 15) hws (by omega) (by omega)
          have a2 := arrW_at ws t (t - 2) hws (by omega) (by omega)
          have a16 := arrW_at ws t (t - 16) hws (by omega) (by omega)
          have a7 := arrW_at ws t (t - 7) hws (by omega) (by omega)
          have hsz := arrW_size ws t hws (by omega)
          generalize ws.getD (t - 15) 0 = x15 at hy a15
          generalize ws.getD (t - 2) 0 = x2 at hy a2
          generalize ws.getD (t - 16) 0 = x16 at hy a16
          generalize ws.getD (t - 7) 0 = x7 at hy a7
          (refine W_at c11_ok ?_; refine ⟨_, rfl, ?_⟩; simp (disch := first | omega | assumption | rfl | (simp only [vcS] <;> omega) | fail) only [↓ptV_l, ↓vcA, vcB, ↓vcD, vcE, ↓reduceIte, Nat.reduceEqDiff, Nat.reduceAdd, Nat.reduceMul, Nat.reduceLeDiff, Int.reduceLE, Int.reduceLT, Int.reduceEq, Int.reduceToNat, Int.reduceAdd, Int.reduceSub, Int.reduceMul, Int.reduceNeg, reduceCtorEq, Option.bind_some, Option.map_some, List.length_cons, List.length_nil, vcM, List.getElem?_toArray, List.getElem?_cons_zero, List.getElem?_cons_succ, hlt])
          (refine W_at c11_ok ?_; refine ⟨_, rfl, ?_⟩; simp (disch := first | omega | assumption | rfl | (simp only [vcS] <;> omega) | fail) only [↓ptV_l, ↓vcA, vcB, ↓vcD, vcE, ↓reduceIte, Nat.reduceEqDiff, Nat.reduceAdd, Nat.reduceMul, Nat.reduceLeDiff, Int.reduceLE, Int.reduceLT, Int.reduceEq, Int.reduceToNat, Int.reduceAdd, Int.reduceSub, Int.reduceMul, Int.reduceNeg, reduceCtorEq, Option.bind_some, Option.map_some, List.length_cons, List.length_nil, vcM, List.getElem?_toArray, List.getElem?_cons_zero, List.getElem?_cons_succ])
          (refine W_at c11_ok ?_; refine ⟨_, rfl, ?_⟩; simp (disch := first | omega | assumption | rfl | (simp only [vcS] <;> omega) | fail) only [↓vcL1, ptS2_eq, ↓vcA, vcB, ↓vcD, vcE, ↓reduceIte, Nat.reduceEqDiff, Nat.reduceAdd, Nat.reduceMul, Nat.reduceLeDiff, Int.reduceLE, Int.reduceLT, Int.reduceEq, Int.reduceToNat, Int.reduceAdd, Int.reduceSub, Int.reduceMul, Int.reduceNeg, reduceCtorEq, Option.bind_some, Option.map_some, List.length_cons, List.length_nil, vcM, List.getElem?_toArray, List.getElem?_cons_zero, List.getElem?_cons_succ, h7, s15, i15, Int.toNat_natCast, Nat.mul_one, Nat.zero_add, a15, U32_shr3])
          have hEd : Ext wj wz.drew := hEz.drew
          have h7d : wz.drew.heap[p7]? = some (.cells (arrW ws t) 60 (0, 0)) := h7
          generalize wz.drew = wd at hEd h7d ⊢
          refine callV_ret (rrot_ok wd x15 25 7 (by decide) (by decide) (by decide)) ?_
          rintro _ wq ⟨rfl, hw⟩
          obtain rfl : wd = wq := hw.symm
          simp (disch := first | omega | assumption | rfl | (simp only [vcS] <;> omega) | fail) only [↓vcL2, ptS1_eq, ↓vcA, vcB, ↓vcD, vcE, ↓reduceIte, Nat.reduceEqDiff, Nat.reduceAdd, Nat.reduceMul, Nat.reduceLeDiff, Int.reduceLE, Int.reduceLT, Int.reduceEq, Int.reduceToNat, Int.reduceAdd, Int.reduceSub, Int.reduceMul, Int.reduceNeg, reduceCtorEq, Option.bind_some, Option.map_some, List.length_cons, List.length_nil, vcM, List.getElem?_toArray, List.getElem?_cons_zero, List.getElem?_cons_succ, h7d, a15, U32_xor]
          refine callV_ret (rrot_ok wd x15 14 18 (by decide) (by decide) (by decide)) ?_
          rintro _ wq ⟨rfl, hw⟩
          obtain rfl : wd = wq := hw.symm
          simp (disch := first | omega | assumption | rfl | (simp only [vcS] <;> omega) | fail) only [↓vcL1, ptS2_eq, ↓vcA, vcB, ↓vcD, vcE, ↓reduceIte, Nat.reduceEqDiff, Nat.reduceAdd, Nat.reduceMul, Nat.reduceLeDiff, Int.reduceLE, Int.reduceLT, Int.reduceEq, Int.reduceToNat, Int.reduceAdd, Int.reduceSub, Int.reduceMul, Int.reduceNeg, reduceCtorEq, Option.bind_some, Option.map_some, List.length_cons, List.length_nil, vcM, List.getElem?_toArray, List.getElem?_cons_zero, List.getElem?_cons_succ, h7d, a15, U32_xor]
          first | (simp (disch := first | omega | assumption | rfl | (simp only [vcS] <;> omega) | fail) only [↓vcL1, ptS2_eq, ↓vcA, vcB, ↓vcD, vcE, ↓reduceIte, Nat.reduceEqDiff, Nat.reduceAdd, Nat.reduceMul, Nat.reduceLeDiff, Int.reduceLE, Int.reduceLT, Int.reduceEq, Int.reduceToNat, Int.reduceAdd, Int.reduceSub, Int.reduceMul, Int.reduceNeg, reduceCtorEq, Option.bind_some, Option.map_some, List.length_cons, List.length_nil, vcM, List.getElem?_toArray, List.getElem?_cons_zero, List.getElem?_cons_succ, h7d, a15, U32_xor]) | skip
          have e0 : sg0 x15 = rotF 7 x15 ^^^ rotF 18 x15 ^^^ x15 >>> 3 := rfl
          rw [← e0]
          (refine W_at c11_ok ?_; refine ⟨_, rfl, ?_⟩; simp (disch := first | omega | assumption | rfl | (simp only [vcS] <;> omega) | fail) only [↓vcL1, ptS2_eq, ↓vcA, vcB, ↓vcD, vcE, ↓reduceIte, Nat.reduceEqDiff, Nat.reduceAdd, Nat.reduceMul, Nat.reduceLeDiff, Int.reduceLE, Int.reduceLT, Int.reduceEq, Int.reduceToNat, Int.reduceAdd, Int.reduceSub, Int.reduceMul, Int.reduceNeg, reduceCtorEq, Option.bind_some, Option.map_some, List.length_cons, List.length_nil, vcM, List.getElem?_toArray, List.getElem?_cons_zero, List.getElem?_cons_succ, h7d, s2, i2, Int.toNat_natCast, Nat.mul_one, Nat.zero_add, a2, U32_shr10])
          have hEe : Ext wj wd.drew := hEd.drew
          have h7e : wd.drew.heap[p7]? = some (.cells (arrW ws t) 60 (0, 0)) := h7d
          generalize wd.drew = we at hEe h7e ⊢
          refine callV_ret (rrot_ok we x2 15 17 (by decide) (by decide) (by decide)) ?_
          rintro _ wq ⟨rfl, hw⟩
          obtain rfl : we = wq := hw.symm
          simp (disch := first | omega | assumption | rfl | (simp only [vcS] <;> omega) | fail) only [↓vcL2, ptS1_eq, ↓vcA, vcB, ↓vcD, vcE, ↓reduceIte, Nat.reduceEqDiff, Nat.reduceAdd, Nat.reduceMul, Nat.reduceLeDiff, Int.reduceLE, Int.reduceLT, Int.reduceEq, Int.reduceToNat, Int.reduceAdd, Int.reduceSub, Int.reduceMul, Int.reduceNeg, reduceCtorEq, Option.bind_some, Option.map_some, List.length_cons, List.length_nil, vcM, List.getElem?_toArray, List.getElem?_cons_zero, List.getElem?_cons_succ, h7e, a2, U32_xor]
          refine callV_ret (rrot_ok we x2 13 19 (by decide) (by decide) (by decide)) ?_
          rintro _ wq ⟨rfl, hw⟩
          obtain rfl : we = wq := hw.symm
          simp (disch := first | omega | assumption | rfl | (simp only [vcS] <;> omega) | fail) only [↓vcL1, ptS2_eq, ↓vcA, vcB, ↓vcD, vcE, ↓reduceIte, Nat.reduceEqDiff, Nat.reduceAdd, Nat.reduceMul, Nat.reduceLeDiff, Int.reduceLE, Int.reduceLT, Int.reduceEq, Int.reduceToNat, Int.reduceAdd, Int.reduceSub, Int.reduceMul, Int.reduceNeg, reduceCtorEq, Option.bind_some, Option.map_some, List.length_cons, List.length_nil, vcM, List.getElem?_toArray, List.getElem?_cons_zero, List.getElem?_cons_succ, h7e, a2, U32_xor]
          first | (simp (disch := first | omega | assumption | rfl | (simp only [vcS] <;> omega) | fail) only [↓vcL1, ptS2_eq, ↓vcA, vcB, ↓vcD, vcE, ↓reduceIte, Nat.reduceEqDiff, Nat.reduceAdd, Nat.reduceMul, Nat.reduceLeDiff, Int.reduceLE, Int.reduceLT, Int.reduceEq, Int.reduceToNat, Int.reduceAdd, Int.reduceSub, Int.reduceMul, Int.reduceNeg, reduceCtorEq, Option.bind_some, Option.map_some, List.length_cons, List.length_nil, vcM, List.getElem?_toArray, List.getElem?_cons_zero, List.getElem?_cons_succ, h7e, a2, U32_xor]) | skip
          have e1 : sg1 x2 = rotF 17 x2 ^^^ rotF 19 x2 ^^^ x2 >>> 10 := rfl
          rw [← e1]
          (refine W_at c11_ok ?_; refine ⟨_, rfl, ?_⟩; simp (disch := first | omega | assumption | rfl | (simp only [vcS] <;> omega) | fail) only [↓ptV_l, ↓vcA, vcB, ↓vcD, vcE, ↓reduceIte, Nat.reduceEqDiff, Nat.reduceAdd, Nat.reduceMul, Nat.reduceLeDiff, Int.reduceLE, Int.reduceLT, Int.reduceEq, Int.reduceToNat, Int.reduceAdd, Int.reduceSub, Int.reduceMul, Int.reduceNeg, reduceCtorEq, Option.bind_some, Option.map_some, List.length_cons, List.length_nil, vcM, List.getElem?_toArray, List.getElem?_cons_zero, List.getElem?_cons_succ, h7e, s7, s16, i7, i16, b1, Int.toNat_natCast, Nat.mul_one, Nat.zero_add, a7, a16, U32_add])
          have hEf : Ext wj we.drew := hEe.drew
          have h7f : we.drew.heap[p7]? = some (.cells (arrW ws t) 60 (0, 0)) := h7e
          generalize we.drew = wf at hEf h7f ⊢
          refine ⟨rfl, wr1_of h7f (by rw [hsz]; omega), ?_⟩
          have h7g : (wf.setCell ⟨p7, t, none⟩ (U32 (sg1 x2 + x7 + sg0 x15 + x16))).heap[p7]? = some (.cells (arrW ws (t + 1)) 60 (0, 0)) := by rw [heap_setCell_eq h7f, arrW_set ws t _ hws (by omega) hy]
          have hEg : Ext wj (wf.setCell ⟨p7, t, none⟩ (U32 (sg1 x2 + x7 + sg0 x15 + x16))) := hEf.trans ((Keep.refl _ wf).setCell (S := fun x => x = p7) _ fun _ => rfl) fun x hx e => by omega
          generalize World.setCell _ _ _ = wg at h7g hEg ⊢
          (refine W_at c11_ok ?_; refine ⟨_, rfl, ?_⟩; simp (disch := first | omega | assumption | rfl | (simp only [vcS] <;> omega) | fail) only [↓ptV_l, ↓vcA, vcB, ↓vcD, vcE, ↓reduceIte, Nat.reduceEqDiff, Nat.reduceAdd, Nat.reduceMul, Nat.reduceLeDiff, Int.reduceLE, Int.reduceLT, Int.reduceEq, Int.reduceToNat, Int.reduceAdd, Int.reduceSub, Int.reduceMul, Int.reduceNeg, reduceCtorEq, Option.bind_some, Option.map_some, List.length_cons, List.length_nil, vcM, List.getElem?_toArray, List.getElem?_cons_zero, List.getElem?_cons_succ, hwi])
          (refine W_at c11_ok ?_; refine ⟨_, rfl, ?_⟩; simp (disch := first | omega | assumption | rfl | (simp only [vcS] <;> omega) | fail) only [↓ptV_l, ↓vcA, vcB, ↓vcD, vcE, ↓reduceIte, Nat.reduceEqDiff, Nat.reduceAdd, Nat.reduceMul, Nat.reduceLeDiff, Int.reduceLE, Int.reduceLT, Int.reduceEq, Int.reduceToNat, Int.reduceAdd, Int.reduceSub, Int.reduceMul, Int.reduceNeg, reduceCtorEq, Option.bind_some, Option.map_some, List.length_cons, List.length_nil, vcM, List.getElem?_toArray, List.getElem?_cons_zero, List.getElem?_cons_succ])
          exact ihB (t + 1) wg (by omega) (by omega) h7g hEg
      have LA : ∀ (k t : Nat) (wz : World), t + k = 16 → wz.heap[p7]? = some (.cells (arrW ws t) 60 (0, 0)) → Ext wj wz → W Try.prog (Ret fun u w' => u = .agg (bv (outF (runN (nb + 1) iv mm))).toArray ∧ Ext w w') 11 44 [(2, .pointer (some ⟨p2, 0, none⟩)), (3, .pointer (some ⟨p3, 0, none⟩)), (4, .pointer (some ⟨p4, 0, none⟩)), (5, mv), (6, .int .i64 ((64 * j : Nat) : Int)), (7, .pointer (some ⟨p7, 0, none⟩)), (8, .int .i64 (t : Nat))] wz := by
        intro k
        induction k with
        | zero =>
          intro t wz ht h7 hEz
          obtain rfl : t = 16 := by omega
          (refine W_at c11_ok ?_; refine ⟨_, rfl, ?_⟩; simp (disch := first | omega | assumption | rfl | (simp only [vcS] <;> omega) | fail) only [↓ptV_l, ↓vcA, vcB, ↓vcD, vcE, ↓reduceIte, Nat.reduceEqDiff, Nat.reduceAdd, Nat.reduceMul, Nat.reduceLeDiff, Int.reduceLE, Int.reduceLT, Int.reduceEq, Int.reduceToNat, Int.reduceAdd, Int.reduceSub, Int.reduceMul, Int.reduceNeg, reduceCtorEq, Option.bind_some, Option.map_some, List.length_cons, List.length_nil, vcM, List.getElem?_toArray, List.getElem?_cons_zero, List.getElem?_cons_succ])
          (refine W_at c11_ok ?_; refine ⟨_, rfl, ?_⟩; simp (disch := first | omega | assumption | rfl | (simp only [vcS] <;> omega) | fail) only [↓ptV_l, ↓vcA, vcB, ↓vcD, vcE, ↓reduceIte, Nat.reduceEqDiff, Nat.reduceAdd, Nat.reduceMul, Nat.reduceLeDiff, Int.reduceLE, Int.reduceLT, Int.reduceEq, Int.reduceToNat, Int.reduceAdd, Int.reduceSub, Int.reduceMul, Int.reduceNeg, reduceCtorEq, Option.bind_some, Option.map_some, List.length_cons, List.length_nil, vcM, List.getElem?_toArray, List.getElem?_cons_zero, List.getElem?_cons_succ])
          (refine W_at c11_ok ?_; refine ⟨_, rfl, ?_⟩; simp (disch := first | omega | assumption | rfl | (simp only [vcS] <;> omega) | fail) only [↓ptV_l, ↓vcA, vcB, ↓vcD, vcE, ↓reduceIte, Nat.reduceEqDiff, Nat.reduceAdd, Nat.reduceMul, Nat.reduceLeDiff, Int.reduceLE, Int.reduceLT, Int.reduceEq, Int.reduceToNat, Int.reduceAdd, Int.reduceSub, Int.reduceMul, Int.reduceNeg, reduceCtorEq, Option.bind_some, Option.map_some, List.length_cons, List.length_nil, vcM, List.getElem?_toArray, List.getElem?_cons_zero, List.getElem?_cons_succ])
          exact LB 48 16 wz (by omega) (by omega) h7 hEz
        | succ k ihA =>
          intro t wz ht h7 hEz
          have hlt : ((t : Nat) : Int) < 16 := by omega
          have b1 : 0 ≤ ((t : Nat) : Int) ∧ ((t : Nat) : Int) < 64 := by omega
          have hwt : IntKind.i64.wrap (((t : Nat) : Int) + 1) = ((t + 1 : Nat) : Int) := wrap_i64 (by omega) (by omega)
          have hw4 : IntKind.i64.wrap (4 * ((t : Nat) : Int)) = ((4 * t : Nat) : Int) := by rw [wrap_i64 (by omega) (by omega)]; omega
          have hwa4 : IntKind.i64.wrap (((64 * j : Nat) : Int) + ((4 * t : Nat) : Int)) = ((64 * j + 4 * t : Nat) : Int) := by rw [wrap_i64 (by omega) (by omega)]; omega
          have hdone : ws[t]? = some (accF blk t 4) := by
            have h := ws_16 blk t (by omega)
            rw [hwsd] at h
            rw [h, acc4 blk t fun i hi => ?_]
            have hio : 4 * t + i < blk.length := by omega
            have e2 : blk.getD (4 * t + i) 0 = blk[4 * t + i] := by simp [List.getD, List.getElem?_eq_getElem hio]
            have := hbb _ (List.getElem_mem hio)
            rw [e2]; omega
          have LI : ∀ (m i : Nat) (wz : World), i + m = 4 → wz.heap[p7]? = some (.cells (arrP ws t (accF blk t i)) 60 (0, 0)) → Ext wj wz → W Try.prog (Ret fun u w' => u = .agg (bv (outF (runN (nb + 1) iv mm))).toArray ∧ Ext w w') 11 41 [(2, .pointer (some ⟨p2, 0, none⟩)), (3, .pointer (some ⟨p3, 0, none⟩)), (4, .pointer (some ⟨p4, 0, none⟩)), (5, mv), (6, .int .i64 ((64 * j : Nat) : Int)), (7, .pointer (some ⟨p7, 0, none⟩)), (8, .int .i64 (t : Nat)), (9, .int .i64 (i : Nat))] wz := by
            intro m
            induction m with
            | zero =>
              intro i wz hi h7 hEz
              obtain rfl : i = 4 := by omega
              rw [arrP_done ws t _ hws (by omega) hdone] at h7
              (refine W_at c11_ok ?_; refine ⟨_, rfl, ?_⟩; simp (disch := first | omega | assumption | rfl | (simp only [vcS] <;> omega) | fail) only [↓ptV_l, ↓vcA, vcB, ↓vcD, vcE, ↓reduceIte, Nat.reduceEqDiff, Nat.reduceAdd, Nat.reduceMul, Nat.reduceLeDiff, Int.reduceLE, Int.reduceLT, Int.reduceEq, Int.reduceToNat, Int.reduceAdd, Int.reduceSub, Int.reduceMul, Int.reduceNeg, reduceCtorEq, Option.bind_some, Option.map_some, List.length_cons, List.length_nil, vcM, List.getElem?_toArray, List.getElem?_cons_zero, List.getElem?_cons_succ])
              (refine W_at c11_ok ?_; refine ⟨_, rfl, ?_⟩; simp (disch := first | omega | assumption | rfl | (simp only [vcS] <;> omega) | fail) only [↓ptV_l, ↓vcA, vcB, ↓vcD, vcE, ↓reduceIte, Nat.reduceEqDiff, Nat.reduceAdd, Nat.reduceMul, Nat.reduceLeDiff, Int.reduceLE, Int.reduceLT, Int.reduceEq, Int.reduceToNat, Int.reduceAdd, Int.reduceSub, Int.reduceMul, Int.reduceNeg, reduceCtorEq, Option.bind_some, Option.map_some, List.length_cons, List.length_nil, vcM, List.getElem?_toArray, List.getElem?_cons_zero, List.getElem?_cons_succ])
              (refine W_at c11_ok ?_; refine ⟨_, rfl, ?_⟩; simp (disch := first | omega | assumption | rfl | (simp only [vcS] <;> omega) | fail) only [↓ptV_l, ↓vcA, vcB, ↓vcD, vcE, ↓reduceIte, Nat.reduceEqDiff, Nat.reduceAdd, Nat.reduceMul, Nat.reduceLeDiff, Int.reduceLE, Int.reduceLT, Int.reduceEq, Int.reduceToNat, Int.reduceAdd, Int.reduceSub, Int.reduceMul, Int.reduceNeg, reduceCtorEq, Option.bind_some, Option.map_some, List.length_cons, List.length_nil, vcM, List.getElem?_toArray, List.getElem?_cons_zero, List.getElem?_cons_succ, hwt])
              (refine W_at c11_ok ?_; refine ⟨_, rfl, ?_⟩; simp (disch := first | omega | assumption | rfl | (simp only [vcS] <;> omega) | fail) only [↓ptV_l, ↓vcA, vcB, ↓vcD, vcE, ↓reduceIte, Nat.reduceEqDiff, Nat.reduceAdd, Nat.reduceMul, Nat.reduceLeDiff, Int.reduceLE, Int.reduceLT, Int.reduceEq, Int.reduceToNat, Int.reduceAdd, Int.reduceSub, Int.reduceMul, Int.reduceNeg, reduceCtorEq, Option.bind_some, Option.map_some, List.length_cons, List.length_nil, vcM, List.getElem?_toArray, List.getElem?_cons_zero, List.getElem?_cons_succ])
              exact ihA (t + 1) wz (by omega) h7 hEz
            | succ m ihI =>
              intro i wz hi h7 hEz
              have hlt4 : ((i : Nat) : Int) < 4 := by omega
              have hwi : IntKind.i64.wrap (((i : Nat) : Int) + 1) = ((i + 1 : Nat) : Int) := wrap_i64 (by omega) (by omega)
              have hwb : IntKind.i64.wrap (((64 * j + 4 * t : Nat) : Int) + ((i : Nat) : Int)) = ((64 * j + 4 * t + i : Nat) : Int) := by rw [wrap_i64 (by omega) (by omega)]; omega
              obtain ⟨bb, oo, cc, ex, hc, hrng⟩ := rd_byte (hO.ext hEz).rd hmb (i := 64 * j + 4 * t + i) (by omega)
              rw [show 64 * j + 4 * t + i = 64 * j + (4 * t + i) by omega, ← hbat (4 * t + i) (by omega)] at hc hrng
              have bi : 0 ≤ ((64 * j + (4 * t + i) : Nat) : Int) ∧ ((64 * j + (4 * t + i) : Nat) : Int) < (mm.length : Nat) := by omega
              have hv := b32_of hrng
              have hat := arrP_at ws t (accF blk t i) hws (by omega)
              have hacc : accF blk t i * 256#32 + b32 (blk.getD (4 * t + i) 0) = accF blk t (i + 1) := rfl
              have hsz := arrP_size ws t (accF blk t i) hws (by omega)
              rw [show 64 * j + 4 * t + i = 64 * j + (4 * t + i) by omega] at hwb
              subst ex
              (refine W_at c11_ok ?_; refine ⟨_, rfl, ?_⟩; simp (disch := first | omega | assumption | rfl | (simp only [vcS] <;> omega) | fail) only [↓ptV_l, ↓vcA, vcB, ↓vcD, vcE, ↓reduceIte, Nat.reduceEqDiff, Nat.reduceAdd, Nat.reduceMul, Nat.reduceLeDiff, Int.reduceLE, Int.reduceLT, Int.reduceEq, Int.reduceToNat, Int.reduceAdd, Int.reduceSub, Int.reduceMul, Int.reduceNeg, reduceCtorEq, Option.bind_some, Option.map_some, List.length_cons, List.length_nil, vcM, List.getElem?_toArray, List.getElem?_cons_zero, List.getElem?_cons_succ, hlt4])
              (refine W_at c11_ok ?_; refine ⟨_, rfl, ?_⟩; simp (disch := first | omega | assumption | rfl | (simp only [vcS] <;> omega) | fail) only [↓ptV_l, ↓vcA, vcB, ↓vcD, vcE, ↓reduceIte, Nat.reduceEqDiff, Nat.reduceAdd, Nat.reduceMul, Nat.reduceLeDiff, Int.reduceLE, Int.reduceLT, Int.reduceEq, Int.reduceToNat, Int.reduceAdd, Int.reduceSub, Int.reduceMul, Int.reduceNeg, reduceCtorEq, Option.bind_some, Option.map_some, List.length_cons, List.length_nil, vcM, List.getElem?_toArray, List.getElem?_cons_zero, List.getElem?_cons_succ])
              (refine W_at c11_ok ?_; refine ⟨_, rfl, ?_⟩; simp (disch := first | omega | assumption | rfl | (simp only [vcS] <;> omega) | fail) only [↓ptV_l, ↓vcA, vcB, ↓vcD, vcE, ↓reduceIte, Nat.reduceEqDiff, Nat.reduceAdd, Nat.reduceMul, Nat.reduceLeDiff, Int.reduceLE, Int.reduceLT, Int.reduceEq, Int.reduceToNat, Int.reduceAdd, Int.reduceSub, Int.reduceMul, Int.reduceNeg, reduceCtorEq, Option.bind_some, Option.map_some, List.length_cons, List.length_nil, vcM, List.getElem?_toArray, List.getElem?_cons_zero, List.getElem?_cons_succ, h7, b1, hw4, hwa4, hwb, bi, Int.toNat_natCast, Nat.mul_one, Nat.zero_add, hat, U32_mulC, hc, hv, U32_add])
              have hEd : Ext wj wz.drew := hEz.drew
              have h7d : wz.drew.heap[p7]? = some (.cells (arrP ws t (accF blk t i)) 60 (0, 0)) := h7
              generalize wz.drew = wd at hEd h7d ⊢
              refine ⟨rfl, wr1_of h7d (by rw [hsz]; omega), ?_⟩
              rw [hacc]
              have h7g : (wd.setCell ⟨p7, t, none⟩ (U32 (accF blk t (i + 1)))).heap[p7]? = some (.cells (arrP ws t (accF blk t (i + 1))) 60 (0, 0)) := by rw [heap_setCell_eq h7d, arrP_set]
              have hEg : Ext wj (wd.setCell ⟨p7, t, none⟩ (U32 (accF blk t (i + 1)))) := hEd.trans ((Keep.refl _ wd).setCell (S := fun x => x = p7) _ fun _ => rfl) fun x hx e => by omega
              generalize World.setCell _ _ _ = wg at h7g hEg ⊢
              (refine W_at c11_ok ?_; refine ⟨_, rfl, ?_⟩; simp (disch := first | omega | assumption | rfl | (simp only [vcS] <;> omega) | fail) only [↓ptV_l, ↓vcA, vcB, ↓vcD, vcE, ↓reduceIte, Nat.reduceEqDiff, Nat.reduceAdd, Nat.reduceMul, Nat.reduceLeDiff, Int.reduceLE, Int.reduceLT, Int.reduceEq, Int.reduceToNat, Int.reduceAdd, Int.reduceSub, Int.reduceMul, Int.reduceNeg, reduceCtorEq, Option.bind_some, Option.map_some, List.length_cons, List.length_nil, vcM, List.getElem?_toArray, List.getElem?_cons_zero, List.getElem?_cons_succ, hwi])
              (refine W_at c11_ok ?_; refine ⟨_, rfl, ?_⟩; simp (disch := first | omega | assumption | rfl | (simp only [vcS] <;> omega) | fail) only [↓ptV_l, ↓vcA, vcB, ↓vcD, vcE, ↓reduceIte, Nat.reduceEqDiff, Nat.reduceAdd, Nat.reduceMul, Nat.reduceLeDiff, Int.reduceLE, Int.reduceLT, Int.reduceEq, Int.reduceToNat, Int.reduceAdd, Int.reduceSub, Int.reduceMul, Int.reduceNeg, reduceCtorEq, Option.bind_some, Option.map_some, List.length_cons, List.length_nil, vcM, List.getElem?_toArray, List.getElem?_cons_zero, List.getElem?_cons_succ])
              exact ihI (i + 1) wg (by omega) h7g hEg
          (refine W_at c11_ok ?_; refine ⟨_, rfl, ?_⟩; simp (disch := first | omega | assumption | rfl | (simp only [vcS] <;> omega) | fail) only [↓ptV_l, ↓vcA, vcB, ↓vcD, vcE, ↓reduceIte, Nat.reduceEqDiff, Nat.reduceAdd, Nat.reduceMul, Nat.reduceLeDiff, Int.reduceLE, Int.reduceLT, Int.reduceEq, Int.reduceToNat, Int.reduceAdd, Int.reduceSub, Int.reduceMul, Int.reduceNeg, reduceCtorEq, Option.bind_some, Option.map_some, List.length_cons, List.length_nil, vcM, List.getElem?_toArray, List.getElem?_cons_zero, List.getElem?_cons_succ, hlt])
          (refine W_at c11_ok ?_; refine ⟨_, rfl, ?_⟩; simp (disch := first | omega | assumption | rfl | (simp only [vcS] <;> omega) | fail) only [↓ptV_l, ↓vcA, vcB, ↓vcD, vcE, ↓reduceIte, Nat.reduceEqDiff, Nat.reduceAdd, Nat.reduceMul, Nat.reduceLeDiff, Int.reduceLE, Int.reduceLT, Int.reduceEq, Int.reduceToNat, Int.reduceAdd, Int.reduceSub, Int.reduceMul, Int.reduceNeg, reduceCtorEq, Option.bind_some, Option.map_some, List.length_cons, List.length_nil, vcM, List.getElem?_toArray, List.getElem?_cons_zero, List.getElem?_cons_succ])
          (refine W_at c11_ok ?_; refine ⟨_, rfl, ?_⟩; simp (disch := first | omega | assumption | rfl | (simp only [vcS] <;> omega) | fail) only [↓ptV_l, ↓vcA, vcB, ↓vcD, vcE, ↓reduceIte, Nat.reduceEqDiff, Nat.reduceAdd, Nat.reduceMul, Nat.reduceLeDiff, Int.reduceLE, Int.reduceLT, Int.reduceEq, Int.reduceToNat, Int.reduceAdd, Int.reduceSub, Int.reduceMul, Int.reduceNeg, reduceCtorEq, Option.bind_some, Option.map_some, List.length_cons, List.length_nil, vcM, List.getElem?_toArray, List.getElem?_cons_zero, List.getElem?_cons_succ])
          exact LI 4 0 wz (by omega) (by rw [show accF blk t 0 = 0 from rfl, arrP_0 ws t hws (by omega)]; exact h7) hEz
      (refine W_at c11_ok ?_; refine ⟨_, rfl, ?_⟩; simp (disch := first | omega | assumption | rfl | (simp only [vcS] <;> omega) | fail) only [↓ptV_l, ↓vcA, vcB, ↓vcD, vcE, ↓reduceIte, Nat.reduceEqDiff, Nat.reduceAdd, Nat.reduceMul, Nat.reduceLeDiff, Int.reduceLE, Int.reduceLT, Int.reduceEq, Int.reduceToNat, Int.reduceAdd, Int.reduceSub, Int.reduceMul, Int.reduceNeg, reduceCtorEq, Option.bind_some, Option.map_some, List.length_cons, List.length_nil, vcM, List.getElem?_toArray, List.getElem?_cons_zero, List.getElem?_cons_succ])
      exact LA 16 0 wa (by omega) h7 hEa
  exact L (nb + 1) 0 w4 (by omega) hp44 hp24 hp34 hm4 hEw4
end Go.Proofs
