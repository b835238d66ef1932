/- 'strongboxlaw03.TextReads' returns true for every input, and the input reads as it did; what its listed variables hold is tied to the program's text. No condition. -/
import Derived.Test.YtajkhimlpnebdaaDoorQ3
import Derived.Test.YtajkhimlpnebdaaDoorCards
import Derived.Test.YtajkhimlpnebdaaDoorRows
import Derived.Test.YtajkhimlpnebdaaDoorTie
set_option linter.unusedSimpArgs false
set_option linter.unusedVariables false
set_option linter.constructorNameAsVariable false
namespace Go.Proofs
open Go.Vc
set_option maxRecDepth 10000

/-- The six letters, written. -/
theorem rbech_letters (w0 : World) (A : List Int) (X : BitVec 64) (hA : A.length ≤ 1000) : ∀ (k : Nat) (wk : World) (tl : Env), k ≤ 6 → Ext w0 wk →
    W Tryd.prog (Ret fun x w' => x = bechR (A ++ (lettersF X 6).map l32F, 0) ∧ Ext w0 w') 11 7 ((9, .string (strOf (A ++ ((lettersF X 6).map l32F).take (6 - k)))) :: (11, U64 X) :: (12, .int .i64 ((k : Int) - 1)) :: tl) wk := by
  have hll : (lettersF X 6).length = 6 := by simp [lettersF]
  intro k
  induction k with
  | zero =>
    intro wk tl hk hE
    have h1 : ¬ 0 ≤ ((0 : Nat) : Int) - 1 := by omega
    rw [List.take_of_length_le (by simp [hll])]
    (refine W_at c11_ok ?_; refine ⟨_, rfl, ?_⟩; simp (disch := first | omega | assumption | rfl | (simp only [vcS] <;> omega) | fail) only [↓vcA, vcB, ↓reduceIte, Nat.reduceEqDiff, Int.reduceLE, Int.reduceSub, Int.reduceNeg, Option.bind_some, vcM])
    (refine W_at c11_ok ?_; refine ⟨_, rfl, ?_⟩; simp (disch := first | omega | assumption | rfl | (simp only [vcS] <;> omega) | fail) only [↓vcA, vcB, ↓reduceIte, Nat.reduceEqDiff, Int.reduceNeg])
    (refine W_at c11_ok ?_; refine ⟨_, rfl, ?_⟩; simp (disch := first | omega | assumption | rfl | (simp only [vcS] <;> omega) | fail) only [↓vcA, vcB, ↓reduceIte, Nat.reduceEqDiff, Int.reduceNeg])
    (refine W_at c11_ok ?_; refine ⟨_, rfl, ?_⟩; simp (disch := first | omega | assumption | rfl | (simp only [vcS] <;> omega) | fail) only [↓vcA, vcB, ↓reduceIte, Nat.reduceEqDiff, Option.bind_some, Option.map_some, Ret_returned])
    exact ⟨rfl, hE⟩
  | succ k ih =>
    intro wk tl hk hE
    have h1 : 0 ≤ ((k + 1 : Nat) : Int) - 1 := by omega
    have e1 : ((k + 1 : Nat) : Int) - 1 = ((k : Nat) : Int) := by omega
    have w5 : IntKind.i64.wrap (5 * ((k : Nat) : Int)) = ((5 * k : Nat) : Int) := by rw [wrap_i64 (by omega) (by omega)]; omega
    have w6 : IntKind.u64.wrap ((5 * k : Nat) : Int) = ((5 * k : Nat) : Int) := by rw [wrap_u64]; omega
    have w7 : IntKind.i64.wrap (((k : Nat) : Int) - 1) = ((k : Nat) : Int) - 1 := wrap_i64 (by omega) (by omega)
    have s1 := U64_shr X .u64 (5 * k) (by omega)
    have hx := and31_lt (X >>> (5 * k))
    have g1 : (strOf l32S)[((X >>> (5 * k)) % 32#64).toNat]? = some (UInt8.ofNat (l32F (((X >>> (5 * k)) &&& 31#64).toNat : Int)).toNat) := by
      rw [rem32_is]
      have := l32_at (x := (((X >>> (5 * k)) &&& 31#64).toNat : Int)) (by omega)
      simpa using this
    have u1 := u8i (l32F_b (x := (((X >>> (5 * k)) &&& 31#64).toNat : Int)) (by omega))
    have ht : A ++ ((lettersF X 6).map l32F).take (6 - k) = A ++ ((lettersF X 6).map l32F).take (6 - (k + 1)) ++ [l32F (((X >>> (5 * k)) &&& 31#64).toNat : Int)] := by
      have e8 : 6 - k = (6 - (k + 1)) + 1 := by omega
      rw [e8, List.take_succ_eq_append_getElem (by simp [hll]; omega), ← List.append_assoc]
      simp [lettersF]
      congr 4
      omega
    rw [e1] at h1 ⊢
    (refine W_at c11_ok ?_; refine ⟨_, rfl, ?_⟩; simp (disch := first | omega | assumption | rfl | (simp only [vcS] <;> omega) | fail) only [↓vcA, vcB, ↓reduceIte, Nat.reduceEqDiff, Option.bind_some, h1])
    (refine W_at c11_ok ?_; refine ⟨_, rfl, ?_⟩; simp (disch := first | omega | assumption | rfl | (simp only [vcS] <;> omega) | fail) only [↓vcA, vcB, ↓reduceIte, Nat.reduceEqDiff])
    have hpl : (A ++ ((lettersF X 6).map l32F).take (6 - (k + 1))).length ≤ 2000 := by rw [List.length_append, List.length_take]; omega
    generalize l32F (((X >>> (5 * k)) &&& 31#64).toNat : Int) = y at *
    have hN : New wk (wk.alloc (.cells (bv [y]).toArray 5)) (.slice (some ⟨wk.heap.size, 0, none⟩) 1 1) [y] := New.lit (bs := [y]) (by simp [maxLen])
    have hb2 : b2sR (wk.alloc (.cells ([Value.int .u8 y] ++ []).toArray 5)) (.slice (some ⟨wk.heap.size, 0, none⟩) 1 1) = some (.string (strOf [y])) := hN.own.rd.b2s
    have hfit := concat_fits (a := A ++ ((lettersF X 6).map l32F).take (6 - (k + 1))) (b := [y]) (by rw [List.length_cons, List.length_nil]; omega)
    have happ := str_app (A ++ ((lettersF X 6).map l32F).take (6 - (k + 1))) [y]
    (refine W_at c11_ok ?_; refine ⟨_, rfl, ?_⟩; simp (disch := first | omega | assumption | rfl | (simp only [vcS] <;> omega) | fail) only [↓ptV_l, ↓vcA, vcB, ↓reduceIte, Nat.reduceEqDiff, Option.bind_some, Option.map_some, List.length_cons, List.length_nil, vcM, w5, w6, s1, U64_rem32, l32S_is, idxS_U, g1, u1, hb2, bin_sadd, hfit, happ])
    rw [← ht]
    (refine W_at c11_ok ?_; refine ⟨_, rfl, ?_⟩; simp (disch := first | omega | assumption | rfl | (simp only [vcS] <;> omega) | fail) only [↓vcA, vcB, ↓reduceIte, Nat.reduceEqDiff, Option.bind_some, w7])
    (refine W_at c11_ok ?_; refine ⟨_, rfl, ?_⟩; simp (disch := first | omega | assumption | rfl | (simp only [vcS] <;> omega) | fail) only [vcB])
    exact ih _ _ (by omega) (hE.ext hN.ext)
/-- The sum, and its letters. -/
theorem rbech_sum (w0 w : World) (h d : List Int) (m : Bool) (v : Value) (i : Int) (tl : Env) (hE : Ext w0 w) (hb : byt h) (hd : Rd w v d) (hd5 : five d) (hl : h.length + d.length ≤ 900) :
    W Tryd.prog (Ret fun x w' => x = bechR (bechF h d m, 0) ∧ Ext w0 w') 11 13 ((0, .string (strOf h)) :: (1, v) :: (2, .bool m) :: (9, .string (strOf (h ++ [49] ++ d.map l32F))) :: (10, .int .i64 i) :: tl) w := by
  have e1 : Value.int .u64 1 = U64 (constB false) := rfl
  have e2 : Value.int .u64 734539939 = U64 (constB true) := rfl
  have hF : bechF h d m = h ++ [49] ++ d.map l32F ++ (lettersF (sumX h d m) 6).map l32F := by simp [bechF, sumL]
  have hN0 : New w (w.alloc (.cells (bv []).toArray 5)) (.slice (some ⟨w.heap.size, 0, none⟩) 0 0) [] := New.lit (bs := []) (by simp [maxLen])
  (refine W_at c11_ok ?_; refine ⟨_, rfl, ?_⟩; simp (disch := first | omega | assumption | rfl | (simp only [vcS] <;> omega) | fail) only [↓ptV_l, ↓vcA, vcB, ↓reduceIte, Nat.reduceEqDiff, Nat.reduceAdd, reduceCtorEq, Option.bind_some, Option.map_some, List.length_cons, List.length_nil, vcM])
  refine appN hN0 (hd.ext hN0.ext) (by rw [List.length_nil]; omega) fun v1 w1 n1 _ _ => ?_
  rw [List.nil_append] at n1
  first | (simp (disch := first | omega | assumption | rfl | (simp only [vcS] <;> omega) | fail) only [↓ptV_l, ↓vcA, vcB, ↓vcD, vcE, ↓reduceIte, Nat.reduceEqDiff, Nat.reduceAdd, Nat.reduceMul, Nat.reduceLeDiff, Int.reduceLE, Int.reduceLT, Int.reduceEq, Int.reduceToNat, Int.reduceAdd, Int.reduceSub, Int.reduceMul, Int.reduceNeg, reduceCtorEq, Option.bind_some, Option.map_some, List.length_cons, List.length_nil, vcM, List.getElem?_toArray, List.getElem?_cons_zero, List.getElem?_cons_succ]) | skip
  refine appNL (news := List.replicate 6 0) n1 (by rw [List.length_replicate]; omega) fun v2 w2 n2 _ _ => ?_
  first | (simp (disch := first | omega | assumption | rfl | (simp only [vcS] <;> omega) | fail) only [↓ptV_l, ↓vcA, vcB, ↓vcD, vcE, ↓reduceIte, Nat.reduceEqDiff, Nat.reduceAdd, Nat.reduceMul, Nat.reduceLeDiff, Int.reduceLE, Int.reduceLT, Int.reduceEq, Int.reduceToNat, Int.reduceAdd, Int.reduceSub, Int.reduceMul, Int.reduceNeg, reduceCtorEq, Option.bind_some, Option.map_some, List.length_cons, List.length_nil, vcM, List.getElem?_toArray, List.getElem?_cons_zero, List.getElem?_cons_succ]) | skip
  refine callV_ret (rsum_ok w2 h (d ++ List.replicate 6 0) v2 hb (by omega) n2.own.rd (byt_app (five_byt hd5) (five_byt (five_rep 6))) (by rw [List.length_append, List.length_replicate]; omega)) ?_
  rintro _ w3 ⟨rfl, hE3⟩
  have hE4 : Ext w0 w3 := hE.ext (n2.ext.ext hE3)
  rw [← List.append_assoc]
  first | (simp (disch := first | omega | assumption | rfl | (simp only [vcS] <;> omega) | fail) only [↓ptV_l, ↓vcA, vcB, ↓vcD, vcE, ↓reduceIte, Nat.reduceEqDiff, Nat.reduceAdd, Nat.reduceMul, Nat.reduceLeDiff, Int.reduceLE, Int.reduceLT, Int.reduceEq, Int.reduceToNat, Int.reduceAdd, Int.reduceSub, Int.reduceMul, Int.reduceNeg, reduceCtorEq, Option.bind_some, Option.map_some, List.length_cons, List.length_nil, vcM, List.getElem?_toArray, List.getElem?_cons_zero, List.getElem?_cons_succ]) | skip
  have fin : ∀ tl, W Tryd.prog (Ret fun x w' => x = bechR (bechF h d m, 0) ∧ Ext w0 w') 11 8 ((9, .string (strOf (h ++ [49] ++ d.map l32F))) :: (11, U64 (sumX h d m)) :: tl) w3 := fun tl => by
    rw [hF]
    (refine W_at c11_ok ?_; refine ⟨_, rfl, ?_⟩; simp (disch := first | omega | assumption | rfl | (simp only [vcS] <;> omega) | fail) only [↓vcA, vcB, ↓reduceIte, Nat.reduceEqDiff])
    have := rbech_letters w0 (h ++ [49] ++ d.map l32F) (sumX h d m) (by simp; omega) 6 w3 [] (by omega) hE4
    rw [Nat.sub_self, List.take_zero, List.append_nil] at this
    exact this
  cases m with
  | true =>
    have hx := U64_xor (runB 25 bechG (spreadF h ++ d ++ List.replicate 6 0)) (constB true)
    (refine W_at c11_ok ?_; refine ⟨_, rfl, ?_⟩; simp (disch := first | omega | assumption | rfl | (simp only [vcS] <;> omega) | fail) only [↓vcA, vcB, ↓reduceIte, Nat.reduceEqDiff])
    (refine W_at c11_ok ?_; refine ⟨_, rfl, ?_⟩; simp (disch := first | omega | assumption | rfl | (simp only [vcS] <;> omega) | fail) only [↓vcA, vcB, ↓reduceIte, Nat.reduceEqDiff])
    (refine W_at c11_ok ?_; refine ⟨_, rfl, ?_⟩; simp (disch := first | omega | assumption | rfl | (simp only [vcS] <;> omega) | fail) only [↓vcA, vcB, ↓reduceIte, Nat.reduceEqDiff, Option.bind_some, e2, hx])
    exact fin _
  | false =>
    have hx := U64_xor (runB 25 bechG (spreadF h ++ d ++ List.replicate 6 0)) (constB false)
    (refine W_at c11_ok ?_; refine ⟨_, rfl, ?_⟩; simp (disch := first | omega | assumption | rfl | (simp only [vcS] <;> omega) | fail) only [↓vcA, vcB, ↓reduceIte, Nat.reduceEqDiff])
    (refine W_at c11_ok ?_; refine ⟨_, rfl, ?_⟩; simp (disch := first | omega | assumption | rfl | (simp only [vcS] <;> omega) | fail) only [↓vcA, vcB, ↓reduceIte, Nat.reduceEqDiff])
    (refine W_at c11_ok ?_; refine ⟨_, rfl, ?_⟩; simp (disch := first | omega | assumption | rfl | (simp only [vcS] <;> omega) | fail) only [↓vcA, vcB, ↓reduceIte, Nat.reduceEqDiff, Option.bind_some, e1, hx])
    exact fin _
set_option maxHeartbeats 1000000 in
theorem rbech_ok (w : World) (h d : List Int) (m : Bool) (v : Value) (hb : byt h) (hm : h.length ≤ maxLen) (hd : Rd w v d) (hdb : byt d) (hdl : d.length ≤ 1000000) :
    Calls Tryd.prog 11 #[.string (strOf h), v, .bool m] w (Ret fun x w' => x = bechR (bechE h d m) ∧ Ext w w') := by
  refine calls_of_cfg c11_ok (Nat.le_of_ble_eq_true rfl) ?_
  simp only [argE_nil, argE_cons, Nat.reduceAdd, Nat.zero_add]
  have hsz := str_size h
  have hlen := hd.len
  have hml : maxLen = 9223372036854775807 := rfl
  have size : 83 < h.length ∨ 90 < h.length + 1 + d.length + 6 → ∀ tl, W Tryd.prog (Ret fun x w' => x = bechR (bechE h d m) ∧ Ext w w') 11 40 ((0, .string (strOf h)) :: (1, v) :: (2, .bool m) :: (24, .bool true) :: tl) w := fun hc tl => by
    rw [bechE, if_pos hc]
    (refine W_at c11_ok ?_; refine ⟨_, rfl, ?_⟩; simp (disch := first | omega | assumption | rfl | (simp only [vcS] <;> omega) | fail) only [↓vcA, vcB, ↓reduceIte, Nat.reduceEqDiff, reduceCtorEq])
    (refine W_at c11_ok ?_; refine ⟨_, rfl, ?_⟩; simp (disch := first | omega | assumption | rfl | (simp only [vcS] <;> omega) | fail) only [↓vcA, vcB, ↓reduceIte, Nat.reduceEqDiff])
    (refine W_at c11_ok ?_; refine ⟨_, rfl, ?_⟩; simp (disch := first | omega | assumption | rfl | (simp only [vcS] <;> omega) | fail) only [↓vcA, vcB, ↓reduceIte, Nat.reduceEqDiff, Option.bind_some, Option.map_some, Ret_returned])
    exact ⟨rfl, Keep.refl _ w⟩
  (refine W_at c11_ok ?_; refine ⟨_, rfl, ?_⟩; simp (disch := first | omega | assumption | rfl | (simp only [vcS] <;> omega) | fail) only [↓vcA, vcB, ↓reduceIte, Nat.reduceEqDiff, reduceCtorEq])
  by_cases c1 : 83 < h.length
  · have k1 : (83 : Int) < (h.length : Int) := by omega
    (refine W_at c11_ok ?_; refine ⟨_, rfl, ?_⟩; simp (disch := first | omega | assumption | rfl | (simp only [vcS] <;> omega) | fail) only [↓vcA, vcB, ↓reduceIte, Nat.reduceEqDiff, reduceCtorEq, Option.bind_some, hsz, k1])
    exact size (.inl c1) _
  have k1 : ¬ (83 : Int) < (h.length : Int) := by omega
  have a2 : IntKind.i64.wrap ((h.length : Int) + (d.length : Int)) = ((h.length + d.length : Nat) : Int) := by rw [wrap_i64 (by omega) (by omega)]; omega
  have a3 : IntKind.i64.wrap (((h.length + d.length : Nat) : Int) + 7) = ((h.length + d.length + 7 : Nat) : Int) := by rw [wrap_i64 (by omega) (by omega)]; omega
  by_cases c2 : 90 < h.length + d.length + 7
  · have k2 : (90 : Int) < ((h.length + d.length + 7 : Nat) : Int) := by omega
    (refine W_at c11_ok ?_; refine ⟨_, rfl, ?_⟩; simp (disch := first | omega | assumption | rfl | (simp only [vcS] <;> omega) | fail) only [↓vcA, vcB, ↓reduceIte, Nat.reduceEqDiff, reduceCtorEq, Option.bind_some, hsz, k1, hlen, a2, a3, k2])
    exact size (.inr (by omega)) _
  have k2 : ¬ (90 : Int) < ((h.length + d.length + 7 : Nat) : Int) := by omega
  have hno : ¬ (83 < h.length ∨ 90 < h.length + 1 + d.length + 6) := by omega
  clear size
  have bad : ∀ {P : Prop}, (P → (h = [] ∨ okH h = false ∨ d.any (fun v => decide (31 < v)) = true)) → P → bechR (bechE h d m) = .tuple #[.string ⟨#[]⟩, .int .i64 3] := fun hp p => by
    rw [bechE, if_neg hno, if_pos (hp p)]; rfl
  (refine W_at c11_ok ?_; refine ⟨_, rfl, ?_⟩; simp (disch := first | omega | assumption | rfl | (simp only [vcS] <;> omega) | fail) only [↓vcA, vcB, ↓reduceIte, Nat.reduceEqDiff, reduceCtorEq, Option.bind_some, hsz, k1, hlen, a2, a3, k2])
  (refine W_at c11_ok ?_; refine ⟨_, rfl, ?_⟩; simp (disch := first | omega | assumption | rfl | (simp only [vcS] <;> omega) | fail) only [↓vcA, vcB, ↓reduceIte, Nat.reduceEqDiff, reduceCtorEq])
  have hnil : decide (strOf h = ⟨#[]⟩) = decide (h = []) := by
    have e : (⟨#[]⟩ : ByteArray) = strOf [] := rfl
    rw [e]
    exact decide_eq_decide.2 (strOf_inj hb byt_nil)
  by_cases h0 : h = []
  · have hd0 := decide_eq_true h0
    rw [bad (P := h = []) .inl h0]
    rw [hd0] at hnil
    (refine W_at c11_ok ?_; refine ⟨_, rfl, ?_⟩; simp (disch := first | omega | assumption | rfl | (simp only [vcS] <;> omega) | fail) only [↓vcA, vcB, ↓reduceIte, Nat.reduceEqDiff, reduceCtorEq, Option.bind_some, hnil])
    (refine W_at c11_ok ?_; refine ⟨_, rfl, ?_⟩; simp (disch := first | omega | assumption | rfl | (simp only [vcS] <;> omega) | fail) only [↓vcA, vcB, ↓reduceIte, Nat.reduceEqDiff, reduceCtorEq])
    (refine W_at c11_ok ?_; refine ⟨_, rfl, ?_⟩; simp (disch := first | omega | assumption | rfl | (simp only [vcS] <;> omega) | fail) only [↓vcA, vcB, ↓reduceIte, Nat.reduceEqDiff])
    (refine W_at c11_ok ?_; refine ⟨_, rfl, ?_⟩; simp (disch := first | omega | assumption | rfl | (simp only [vcS] <;> omega) | fail) only [↓vcA, vcB, ↓reduceIte, Nat.reduceEqDiff, Option.bind_some, Option.map_some, Ret_returned])
    first | exact Keep.refl _ w | exact ⟨rfl, Keep.refl _ w⟩
  have hd0 := decide_eq_false h0
  rw [hd0] at hnil
  -- the values
  have L2 : ∀ (k i : Nat) (wj : World) (tl : Env), k + i = d.length → Ext w wj → okH h = true → bigV (d.take i) = false → byt (d.take i) →
      W Tryd.prog (Ret fun x w' => x = bechR (bechE h d m) ∧ Ext w w') 11 22 ((0, .string (strOf h)) :: (1, v) :: (2, .bool m) :: (9, .string (strOf (h ++ [49] ++ (d.take i).map l32F))) :: (10, .int .i64 (i : Int)) :: tl) wj := by
    intro k
    induction k with
    | zero =>
      intro i wj tl hi hE hk hv htb
      have hil : ¬ ((i : Int) < (d.length : Int)) := by omega
      have hlen := (hd.ext hE).len
      rw [List.take_of_length_le (by omega)] at hv ⊢
      have hE2 : bechE h d m = (bechF h d m, 0) := by
        rw [bechE, if_neg hno, if_neg]
        rintro (h1 | h1 | h1)
        · exact h0 h1
        · rw [hk] at h1; cases h1
        · unfold bigV at hv; rw [hv] at h1; cases h1
      rw [hE2]
      (refine W_at c11_ok ?_; refine ⟨_, rfl, ?_⟩; simp (disch := first | omega | assumption | rfl | (simp only [vcS] <;> omega) | fail) only [↓vcA, vcB, ↓reduceIte, Nat.reduceEqDiff, reduceCtorEq, Option.bind_some, hlen, hil])
      (refine W_at c11_ok ?_; refine ⟨_, rfl, ?_⟩; simp (disch := first | omega | assumption | rfl | (simp only [vcS] <;> omega) | fail) only [↓vcA, vcB, ↓reduceIte, Nat.reduceEqDiff, reduceCtorEq])
      exact rbech_sum w wj h d m v _ _ hE hb (hd.ext hE) (bigV_five hdb hv) (by omega)
    | succ k ih =>
      intro i wj tl hi hE hk hv htb
      have hil : (i : Int) < (d.length : Int) := by omega
      have hi2 : 0 ≤ (i : Int) ∧ (i : Int) < (d.length : Int) := by omega
      have hwi : IntKind.i64.wrap ((i : Int) + 1) = ((i + 1 : Nat) : Int) := wrap_i64 (by omega) (by omega)
      obtain ⟨g, o, c, hv3, hcell⟩ := (hd.ext hE).at (i := i) (by omega)
      have hlen := (hd.ext hE).len
      have hxb := hdb d[i] (List.getElem_mem _)
      have hxm : d[i] ∈ d := List.getElem_mem _
      have hbt := bigV_take (d := d) (i := i) (by omega)
      have ht : h ++ [49] ++ (d.take (i + 1)).map l32F = h ++ [49] ++ (d.take i).map l32F ++ [l32F d[i]] := by rw [List.take_succ_eq_append_getElem (by omega), List.map_append, ← List.append_assoc]; rfl
      have hih := ih (i + 1)
      rw [ht, hbt, hv] at hih
      have hpl : (h ++ [49] ++ (d.take i).map l32F).length ≤ 2000 := by simp [List.length_take]; omega
      clear ht hbt
      subst hv3
      (refine W_at c11_ok ?_; refine ⟨_, rfl, ?_⟩; simp (disch := first | omega | assumption | rfl | (simp only [vcS] <;> omega) | fail) only [↓vcA, vcB, ↓reduceIte, Nat.reduceEqDiff, reduceCtorEq, Option.bind_some, hlen, hil])
      (refine W_at c11_ok ?_; refine ⟨_, rfl, ?_⟩; simp (disch := first | omega | assumption | rfl | (simp only [vcS] <;> omega) | fail) only [↓vcA, vcB, ↓reduceIte, Nat.reduceEqDiff, reduceCtorEq])
      generalize d[i] = x at *
      by_cases hx : 31 < x
      · rw [bad (P := 31 < x) (fun hx => .inr (.inr (List.any_eq_true.2 ⟨x, hxm, decide_eq_true hx⟩))) hx]
        (refine W_at c11_ok ?_; refine ⟨_, rfl, ?_⟩; simp (disch := first | omega | assumption | rfl | (simp only [vcS] <;> omega) | fail) only [↓vcA, vcB, ↓reduceIte, Nat.reduceEqDiff, reduceCtorEq, Option.bind_some, vcM, hi2, hcell, Int.toNat_natCast, Nat.mul_one, hx])
        (refine W_at c11_ok ?_; refine ⟨_, rfl, ?_⟩; simp (disch := first | omega | assumption | rfl | (simp only [vcS] <;> omega) | fail) only [↓vcA, vcB, ↓reduceIte, Nat.reduceEqDiff, reduceCtorEq])
        (refine W_at c11_ok ?_; refine ⟨_, rfl, ?_⟩; simp (disch := first | omega | assumption | rfl | (simp only [vcS] <;> omega) | fail) only [↓vcA, vcB, ↓reduceIte, Nat.reduceEqDiff])
        (refine W_at c11_ok ?_; refine ⟨_, rfl, ?_⟩; simp (disch := first | omega | assumption | rfl | (simp only [vcS] <;> omega) | fail) only [↓vcA, vcB, ↓reduceIte, Nat.reduceEqDiff, Option.bind_some, Option.map_some, Ret_returned])
        first | exact hE | exact ⟨rfl, hE⟩
      · have g1 := l32_at (x := x) (by omega)
        have u1 := u8i (l32F_b (x := x) (by omega))
        have hx0 := hxb.1
        (refine W_at c11_ok ?_; refine ⟨_, rfl, ?_⟩; simp (disch := first | omega | assumption | rfl | (simp only [vcS] <;> omega) | fail) only [↓vcA, vcB, ↓reduceIte, Nat.reduceEqDiff, reduceCtorEq, Option.bind_some, vcM, hi2, hcell, Int.toNat_natCast, Nat.mul_one, hx])
        (refine W_at c11_ok ?_; refine ⟨_, rfl, ?_⟩; simp (disch := first | omega | assumption | rfl | (simp only [vcS] <;> omega) | fail) only [↓vcA, vcB, ↓reduceIte, Nat.reduceEqDiff, reduceCtorEq])
        generalize l32F x = y at *
        have hN : New wj (wj.alloc (.cells (bv [y]).toArray 5)) (.slice (some ⟨wj.heap.size, 0, none⟩) 1 1) [y] := New.lit (bs := [y]) (by simp [maxLen])
        have hb2 : b2sR (wj.alloc (.cells ([Value.int .u8 y] ++ []).toArray 5)) (.slice (some ⟨wj.heap.size, 0, none⟩) 1 1) = some (.string (strOf [y])) := hN.own.rd.b2s
        have hfit := concat_fits (a := h ++ [49] ++ (d.take i).map l32F) (b := [y]) (by rw [List.length_cons, List.length_nil]; omega)
        have happ := str_app (h ++ [49] ++ (d.take i).map l32F) [y]
        (refine W_at c11_ok ?_; refine ⟨_, rfl, ?_⟩; simp (disch := first | omega | assumption | rfl | (simp only [vcS] <;> omega) | fail) only [↓ptV_l, ↓vcA, vcB, ↓reduceIte, Nat.reduceEqDiff, reduceCtorEq, Option.bind_some, Option.map_some, List.length_cons, List.length_nil, vcM, hi2, hcell, Int.toNat_natCast, Nat.mul_one, l32S_is, hx0, g1, u1, hb2, bin_sadd, hfit, happ])
        (refine W_at c11_ok ?_; refine ⟨_, rfl, ?_⟩; simp (disch := first | omega | assumption | rfl | (simp only [vcS] <;> omega) | fail) only [↓vcA, vcB, ↓reduceIte, Nat.reduceEqDiff, reduceCtorEq, Option.bind_some, hwi])
        (refine W_at c11_ok ?_; refine ⟨_, rfl, ?_⟩; simp (disch := first | omega | assumption | rfl | (simp only [vcS] <;> omega) | fail) only [vcB])
        exact hih _ _ (by omega) (hE.ext hN.ext) hk (by rw [decide_eq_false hx]; rfl) (byt_take hdb _)
  -- the part for people
  have L1 : ∀ (k i : Nat) (tl : Env), k + i = h.length → okH (h.take i) = true →
      W Tryd.prog (Ret fun x w' => x = bechR (bechE h d m) ∧ Ext w w') 11 32 ((0, .string (strOf h)) :: (1, v) :: (2, .bool m) :: (8, .int .i64 (i : Int)) :: tl) w := by
    intro k
    induction k with
    | zero =>
      intro i tl hi hk
      have hil : ¬ ((i : Int) < (h.length : Int)) := by omega
      rw [List.take_of_length_le (by omega)] at hk
      have hfit := concat_fits (a := h) (b := [49]) (by simp; omega)
      have e49 : (⟨#[49]⟩ : ByteArray) = strOf [49] := by decide +kernel
      have happ := str_app h [49]
      (refine W_at c11_ok ?_; refine ⟨_, rfl, ?_⟩; simp (disch := first | omega | assumption | rfl | (simp only [vcS] <;> omega) | fail) only [↓vcA, vcB, ↓reduceIte, Nat.reduceEqDiff, reduceCtorEq, Option.bind_some, hsz, hil])
      (refine W_at c11_ok ?_; refine ⟨_, rfl, ?_⟩; simp (disch := first | omega | assumption | rfl | (simp only [vcS] <;> omega) | fail) only [↓vcA, vcB, ↓reduceIte, Nat.reduceEqDiff, reduceCtorEq])
      (refine W_at c11_ok ?_; refine ⟨_, rfl, ?_⟩; simp (disch := first | omega | assumption | rfl | (simp only [vcS] <;> omega) | fail) only [↓vcA, vcB, ↓reduceIte, Nat.reduceEqDiff, reduceCtorEq, Option.bind_some, e49, bin_sadd, hfit, happ])
      (refine W_at c11_ok ?_; refine ⟨_, rfl, ?_⟩; simp (disch := first | omega | assumption | rfl | (simp only [vcS] <;> omega) | fail) only [↓vcA, vcB, ↓reduceIte, Nat.reduceEqDiff, reduceCtorEq])
      have := L2 d.length 0 w [] (by omega) (Keep.refl _ w) hk rfl (fun x hx => by simp at hx)
      rw [List.take_zero, List.map_nil, List.append_nil] at this
      exact this
    | succ k ih =>
      intro i tl hi hk
      have hil : (i : Int) < (h.length : Int) := by omega
      have h0i : 0 ≤ (i : Int) := by omega
      have hwi : IntKind.i64.wrap ((i : Int) + 1) = ((i + 1 : Nat) : Int) := wrap_i64 (by omega) (by omega)
      have g1 := str_get (bs := h) (i := i) (by omega)
      have u1 := u8i (hb h[i] (List.getElem_mem _))
      have hxm : h[i] ∈ h := List.getElem_mem _
      have hih := ih (i + 1)
      rw [okH_take (by omega), hk] at hih
      have hout : okc h[i] = false → ∀ tl, W Tryd.prog (Ret fun x w' => x = bechR (bechE h d m) ∧ Ext w w') 11 29 ((0, .string (strOf h)) :: (1, v) :: (2, .bool m) :: (8, .int .i64 (i : Int)) :: (54, .bool true) :: tl) w := fun hc tl => by
        rw [bad (P := okc h[i] = false) (fun hc => .inr (.inl (by
          cases ho : okH h with
          | false => rfl
          | true => rw [okH_all ho _ hxm] at hc; cases hc))) hc]
        (refine W_at c11_ok ?_; refine ⟨_, rfl, ?_⟩; simp (disch := first | omega | assumption | rfl | (simp only [vcS] <;> omega) | fail) only [↓vcA, vcB, ↓reduceIte, Nat.reduceEqDiff, reduceCtorEq])
        (refine W_at c11_ok ?_; refine ⟨_, rfl, ?_⟩; simp (disch := first | omega | assumption | rfl | (simp only [vcS] <;> omega) | fail) only [↓vcA, vcB, ↓reduceIte, Nat.reduceEqDiff])
        (refine W_at c11_ok ?_; refine ⟨_, rfl, ?_⟩; simp (disch := first | omega | assumption | rfl | (simp only [vcS] <;> omega) | fail) only [↓vcA, vcB, ↓reduceIte, Nat.reduceEqDiff, Option.bind_some, Option.map_some, Ret_returned])
        first | exact Keep.refl _ w | exact ⟨rfl, Keep.refl _ w⟩
      have hgo : okc h[i] = true → ∀ tl, W Tryd.prog (Ret fun x w' => x = bechR (bechE h d m) ∧ Ext w w') 11 29 ((0, .string (strOf h)) :: (1, v) :: (2, .bool m) :: (8, .int .i64 (i : Int)) :: (54, .bool false) :: tl) w := fun hc tl => by
        (refine W_at c11_ok ?_; refine ⟨_, rfl, ?_⟩; simp (disch := first | omega | assumption | rfl | (simp only [vcS] <;> omega) | fail) only [↓vcA, vcB, ↓reduceIte, Nat.reduceEqDiff, reduceCtorEq])
        (refine W_at c11_ok ?_; refine ⟨_, rfl, ?_⟩; simp (disch := first | omega | assumption | rfl | (simp only [vcS] <;> omega) | fail) only [↓vcA, vcB, ↓reduceIte, Nat.reduceEqDiff, reduceCtorEq, Option.bind_some, hwi])
        (refine W_at c11_ok ?_; refine ⟨_, rfl, ?_⟩; simp (disch := first | omega | assumption | rfl | (simp only [vcS] <;> omega) | fail) only [vcB])
        exact hih _ (by omega) (by rw [hc]; rfl)
      clear hih hxm
      generalize h[i] = x at *
      (refine W_at c11_ok ?_; refine ⟨_, rfl, ?_⟩; simp (disch := first | omega | assumption | rfl | (simp only [vcS] <;> omega) | fail) only [↓vcA, vcB, ↓reduceIte, Nat.reduceEqDiff, reduceCtorEq, Option.bind_some, hsz, hil])
      (refine W_at c11_ok ?_; refine ⟨_, rfl, ?_⟩; simp (disch := first | omega | assumption | rfl | (simp only [vcS] <;> omega) | fail) only [↓vcA, vcB, ↓reduceIte, Nat.reduceEqDiff, reduceCtorEq])
      by_cases x1 : x < 33
      · (refine W_at c11_ok ?_; refine ⟨_, rfl, ?_⟩; simp (disch := first | omega | assumption | rfl | (simp only [vcS] <;> omega) | fail) only [↓vcA, vcB, ↓reduceIte, Nat.reduceEqDiff, reduceCtorEq, Option.bind_some, Option.map_some, h0i, Int.toNat_natCast, g1, u1, x1])
        exact hout (by simp [okc]; omega) _
      by_cases x2 : 126 < x
      · (refine W_at c11_ok ?_; refine ⟨_, rfl, ?_⟩; simp (disch := first | omega | assumption | rfl | (simp only [vcS] <;> omega) | fail) only [↓vcA, vcB, ↓reduceIte, Nat.reduceEqDiff, reduceCtorEq, Option.bind_some, Option.map_some, h0i, Int.toNat_natCast, g1, u1, x1, x2])
        exact hout (by simp [okc]; omega) _
      by_cases x3 : 65 ≤ x
      · by_cases x4 : x ≤ 90
        · (refine W_at c11_ok ?_; refine ⟨_, rfl, ?_⟩; simp (disch := first | omega | assumption | rfl | (simp only [vcS] <;> omega) | fail) only [↓vcA, vcB, ↓reduceIte, Nat.reduceEqDiff, reduceCtorEq, Option.bind_some, Option.map_some, h0i, Int.toNat_natCast, g1, u1, x1, x2, x3, x4])
          exact hout (by simp [okc]; omega) _
        · (refine W_at c11_ok ?_; refine ⟨_, rfl, ?_⟩; simp (disch := first | omega | assumption | rfl | (simp only [vcS] <;> omega) | fail) only [↓vcA, vcB, ↓reduceIte, Nat.reduceEqDiff, reduceCtorEq, Option.bind_some, Option.map_some, h0i, Int.toNat_natCast, g1, u1, x1, x2, x3, x4])
          exact hgo (by simp [okc]; omega) _
      · (refine W_at c11_ok ?_; refine ⟨_, rfl, ?_⟩; simp (disch := first | omega | assumption | rfl | (simp only [vcS] <;> omega) | fail) only [↓vcA, vcB, ↓reduceIte, Nat.reduceEqDiff, reduceCtorEq, Option.bind_some, Option.map_some, h0i, Int.toNat_natCast, g1, u1, x1, x2, x3])
        exact hgo (by simp [okc]; omega) _
  (refine W_at c11_ok ?_; refine ⟨_, rfl, ?_⟩; simp (disch := first | omega | assumption | rfl | (simp only [vcS] <;> omega) | fail) only [↓vcA, vcB, ↓reduceIte, Nat.reduceEqDiff, reduceCtorEq, Option.bind_some, hnil])
  (refine W_at c11_ok ?_; refine ⟨_, rfl, ?_⟩; simp (disch := first | omega | assumption | rfl | (simp only [vcS] <;> omega) | fail) only [↓vcA, vcB, ↓reduceIte, Nat.reduceEqDiff, reduceCtorEq])
  (refine W_at c11_ok ?_; refine ⟨_, rfl, ?_⟩; simp (disch := first | omega | assumption | rfl | (simp only [vcS] <;> omega) | fail) only [↓vcA, vcB, ↓reduceIte, Nat.reduceEqDiff, reduceCtorEq])
  exact L1 h.length 0 _ (by omega) rfl
end Go.Proofs
namespace Go.Proofs
open Go.Vc
set_option maxRecDepth 10000

def fitF (v : Int) (n : Nat) : Bool := decide (2 ≤ n) && decide (n ≤ 40) && (decide (v ≠ 0) || decide (n = 20) || decide (n = 32))
def segE (h : List Int) (ver : Int) (p : List Int) : List Int × Int :=
  if ver < 0 ∨ 16 < ver then ([], 1) else if fitF ver p.length = false then ([], 2) else bechE h (ver :: (regE p 8 5 true).1) (decide (ver ≠ 0))
theorem copy_ok (w : World) (x : Value) (bs : List Int) (hx : Rd w x bs) (hl : bs.length ≤ 100000000) :
    Calls Tryd.prog 19 #[x] w (Ret fun u w' => New w w' u bs) := by
  refine calls_of_cfg c19_ok (Nat.le_of_ble_eq_true rfl) ?_
  simp only [argE_nil, argE_cons, Nat.zero_add]
  (refine W_at c19_ok ?_; refine ⟨_, rfl, ?_⟩; simp (disch := first | omega | assumption | rfl | (simp only [vcS] <;> omega) | fail) only [↓vcA, vcB, ↓reduceIte, reduceCtorEq])
  (refine W_at c19_ok ?_; refine ⟨_, rfl, ?_⟩; simp (disch := first | omega | assumption | rfl | (simp only [vcS] <;> omega) | fail) only [↓ptV_l, ↓vcA, vcB, ↓reduceIte, Nat.reduceEqDiff, reduceCtorEq, Option.bind_some, List.length_nil, vcM])
  have hN : New w (w.alloc (.cells (bv []).toArray 5)) (.slice (some ⟨w.heap.size, 0, none⟩) 0 0) [] := New.lit (by simp [maxLen])
  refine appN hN (hx.ext hN.ext) (by simp; omega) fun v' w' h1 _ _ => ?_
  first | (simp (disch := first | omega | assumption | rfl | (simp only [vcS] <;> omega) | fail) only [↓ptV_l, ↓vcA, vcB, ↓vcD, vcE, ↓reduceIte, Nat.reduceEqDiff, Nat.reduceAdd, Nat.reduceMul, Nat.reduceLeDiff, Int.reduceLE, Int.reduceLT, Int.reduceEq, Int.reduceToNat, Int.reduceAdd, Int.reduceSub, Int.reduceMul, Int.reduceNeg, reduceCtorEq, Option.bind_some, Option.map_some, List.length_cons, List.length_nil, vcM, List.getElem?_toArray, List.getElem?_cons_zero, List.getElem?_cons_succ]) | skip
  (refine W_at c19_ok ?_; refine ⟨_, rfl, ?_⟩; simp (disch := first | omega | assumption | rfl | (simp only [vcS] <;> omega) | fail) only [↓vcA, vcB, ↓reduceIte, Option.bind_some, Option.map_some, Ret_returned])
  exact h1
theorem reg85_b (p : List Int) : five (regE p 8 5 true).1 := by
  rw [show regE p 8 5 true = _ from regE_of (bs := p) (a := 8) (b := 5) (pad := true) (by decide) (by decide)]
  cases hr : regF p 8 5 true with
  | none => exact fun v hv => by cases hv
  | some x => exact fun v hv => by have := (regF_fine (by decide) hr).1 v hv; simpa using this
theorem fits_ok (w : World) (v : Int) (n : Nat) : Calls Tryd.prog 37 #[.int .i64 v, .int .i64 (n : Int)] w (Ret fun u w' => u = .bool (fitF v n) ∧ w' = w) := by
  refine calls_of_cfg c37_ok (Nat.le_of_ble_eq_true rfl) ?_
  simp only [argE_nil, argE_cons, Nat.reduceAdd, Nat.zero_add]
  (refine W_at c37_ok ?_; refine ⟨_, rfl, ?_⟩; simp (disch := first | omega | assumption | rfl | (simp only [vcS] <;> omega) | fail) only [↓vcA, vcB, ↓reduceIte, Nat.reduceEqDiff, reduceCtorEq])
  by_cases h1 : ¬ (2 : Int) ≤ (n : Int)
  · have e : fitF v n = false := by simp [fitF]; omega
    rw [e]
    (refine W_at c37_ok ?_; refine ⟨_, rfl, ?_⟩; simp (disch := first | omega | assumption | rfl | (simp only [vcS] <;> omega) | fail) only [↓vcA, vcB, ↓reduceIte, Nat.reduceEqDiff, reduceCtorEq, Option.bind_some, h1])
    (refine W_at c37_ok ?_; refine ⟨_, rfl, ?_⟩; simp (disch := first | omega | assumption | rfl | (simp only [vcS] <;> omega) | fail) only [↓vcA, vcB, ↓reduceIte, Option.bind_some, Option.map_some, Ret_returned])
  replace h1 := Decidable.not_not.1 h1
  by_cases h2 : ¬ (n : Int) ≤ 40
  · have e : fitF v n = false := by simp [fitF]; omega
    rw [e]
    (refine W_at c37_ok ?_; refine ⟨_, rfl, ?_⟩; simp (disch := first | omega | assumption | rfl | (simp only [vcS] <;> omega) | fail) only [↓vcA, vcB, ↓reduceIte, Nat.reduceEqDiff, reduceCtorEq, Option.bind_some, h1, h2])
    (refine W_at c37_ok ?_; refine ⟨_, rfl, ?_⟩; simp (disch := first | omega | assumption | rfl | (simp only [vcS] <;> omega) | fail) only [↓vcA, vcB, ↓reduceIte, Option.bind_some, Option.map_some, Ret_returned])
  replace h2 := Decidable.not_not.1 h2
  by_cases h0 : ¬ v = 0
  · have e : fitF v n = true := by simp [fitF]; omega
    rw [e]
    (refine W_at c37_ok ?_; refine ⟨_, rfl, ?_⟩; simp (disch := first | omega | assumption | rfl | (simp only [vcS] <;> omega) | fail) only [↓vcA, vcB, ↓reduceIte, Nat.reduceEqDiff, reduceCtorEq, Option.bind_some, h1, h2, h0])
    (refine W_at c37_ok ?_; refine ⟨_, rfl, ?_⟩; simp (disch := first | omega | assumption | rfl | (simp only [vcS] <;> omega) | fail) only [↓vcA, vcB, ↓reduceIte, Option.bind_some, Option.map_some, Ret_returned])
  replace h0 := Decidable.not_not.1 h0
  by_cases h3 : (n : Int) = 20
  · have e : fitF v n = true := by simp [fitF]; omega
    rw [e]
    (refine W_at c37_ok ?_; refine ⟨_, rfl, ?_⟩; simp (disch := first | omega | assumption | rfl | (simp only [vcS] <;> omega) | fail) only [↓vcA, vcB, ↓reduceIte, Nat.reduceEqDiff, Int.reduceLE, reduceCtorEq, Option.bind_some, h0, h3])
    (refine W_at c37_ok ?_; refine ⟨_, rfl, ?_⟩; simp (disch := first | omega | assumption | rfl | (simp only [vcS] <;> omega) | fail) only [↓vcA, vcB, ↓reduceIte, Option.bind_some, Option.map_some, Ret_returned])
  by_cases h4 : (n : Int) = 32
  · have e : fitF v n = true := by simp [fitF]; omega
    rw [e]
    (refine W_at c37_ok ?_; refine ⟨_, rfl, ?_⟩; simp (disch := first | omega | assumption | rfl | (simp only [vcS] <;> omega) | fail) only [↓vcA, vcB, ↓reduceIte, Nat.reduceEqDiff, Int.reduceLE, Int.reduceEq, reduceCtorEq, Option.bind_some, h0, h4])
    (refine W_at c37_ok ?_; refine ⟨_, rfl, ?_⟩; simp (disch := first | omega | assumption | rfl | (simp only [vcS] <;> omega) | fail) only [↓vcA, vcB, ↓reduceIte, Option.bind_some, Option.map_some, Ret_returned])
  have e : fitF v n = false := by simp [fitF]; omega
  rw [e]
  (refine W_at c37_ok ?_; refine ⟨_, rfl, ?_⟩; simp (disch := first | omega | assumption | rfl | (simp only [vcS] <;> omega) | fail) only [↓vcA, vcB, ↓reduceIte, Nat.reduceEqDiff, reduceCtorEq, Option.bind_some, h1, h2, h0, h3, h4])
  (refine W_at c37_ok ?_; refine ⟨_, rfl, ?_⟩; simp (disch := first | omega | assumption | rfl | (simp only [vcS] <;> omega) | fail) only [↓vcA, vcB, ↓reduceIte, Option.bind_some, Option.map_some, Ret_returned])
theorem rfits_ok (w : World) (v : Int) (n : Nat) : Calls Tryd.prog 39 #[.int .i64 v, .int .i64 (n : Int)] w (Ret fun u w' => u = .bool (fitF v n) ∧ w' = w) := by
  refine calls_of_cfg c39_ok (Nat.le_of_ble_eq_true rfl) ?_
  simp only [argE_nil, argE_cons, Nat.reduceAdd, Nat.zero_add]
  (refine W_at c39_ok ?_; refine ⟨_, rfl, ?_⟩; simp (disch := first | omega | assumption | rfl | (simp only [vcS] <;> omega) | fail) only [↓vcA, vcB, ↓reduceIte, Nat.reduceEqDiff, reduceCtorEq])
  by_cases h0 : v = 0
  · by_cases h3 : (n : Int) = 20
    · have e : fitF v n = true := by simp [fitF]; omega
      rw [e]
      (refine W_at c39_ok ?_; refine ⟨_, rfl, ?_⟩; simp (disch := first | omega | assumption | rfl | (simp only [vcS] <;> omega) | fail) only [↓vcA, vcB, ↓reduceIte, Nat.reduceEqDiff, reduceCtorEq, Option.bind_some, h0, h3])
      (refine W_at c39_ok ?_; refine ⟨_, rfl, ?_⟩; simp (disch := first | omega | assumption | rfl | (simp only [vcS] <;> omega) | fail) only [↓vcA, vcB, ↓reduceIte, Nat.reduceEqDiff])
      (refine W_at c39_ok ?_; refine ⟨_, rfl, ?_⟩; simp (disch := first | omega | assumption | rfl | (simp only [vcS] <;> omega) | fail) only [↓vcA, vcB, ↓reduceIte, Nat.reduceEqDiff, Option.bind_some])
      (refine W_at c39_ok ?_; refine ⟨_, rfl, ?_⟩; simp (disch := first | omega | assumption | rfl | (simp only [vcS] <;> omega) | fail) only [↓vcA, vcB, ↓reduceIte, Option.bind_some, Option.map_some, Ret_returned])
    · by_cases h4 : (n : Int) = 32
      · have e : fitF v n = true := by simp [fitF]; omega
        rw [e]
        (refine W_at c39_ok ?_; refine ⟨_, rfl, ?_⟩; simp (disch := first | omega | assumption | rfl | (simp only [vcS] <;> omega) | fail) only [↓vcA, vcB, ↓reduceIte, Nat.reduceEqDiff, reduceCtorEq, Option.bind_some, h0, h4])
        (refine W_at c39_ok ?_; refine ⟨_, rfl, ?_⟩; simp (disch := first | omega | assumption | rfl | (simp only [vcS] <;> omega) | fail) only [↓vcA, vcB, ↓reduceIte, Nat.reduceEqDiff])
        (refine W_at c39_ok ?_; refine ⟨_, rfl, ?_⟩; simp (disch := first | omega | assumption | rfl | (simp only [vcS] <;> omega) | fail) only [↓vcA, vcB, ↓reduceIte, Nat.reduceEqDiff, Int.reduceEq, Option.bind_some])
        (refine W_at c39_ok ?_; refine ⟨_, rfl, ?_⟩; simp (disch := first | omega | assumption | rfl | (simp only [vcS] <;> omega) | fail) only [↓vcA, vcB, ↓reduceIte, Option.bind_some, Option.map_some, Ret_returned])
      · have e : fitF v n = false := by simp [fitF]; omega
        rw [e]
        (refine W_at c39_ok ?_; refine ⟨_, rfl, ?_⟩; simp (disch := first | omega | assumption | rfl | (simp only [vcS] <;> omega) | fail) only [↓vcA, vcB, ↓reduceIte, Nat.reduceEqDiff, reduceCtorEq, Option.bind_some, h0])
        (refine W_at c39_ok ?_; refine ⟨_, rfl, ?_⟩; simp (disch := first | omega | assumption | rfl | (simp only [vcS] <;> omega) | fail) only [↓vcA, vcB, ↓reduceIte, Nat.reduceEqDiff])
        (refine W_at c39_ok ?_; refine ⟨_, rfl, ?_⟩; simp (disch := first | omega | assumption | rfl | (simp only [vcS] <;> omega) | fail) only [↓vcA, vcB, ↓reduceIte, Nat.reduceEqDiff, Option.bind_some, h3, h4])
        (refine W_at c39_ok ?_; refine ⟨_, rfl, ?_⟩; simp (disch := first | omega | assumption | rfl | (simp only [vcS] <;> omega) | fail) only [↓vcA, vcB, ↓reduceIte, Option.bind_some, Option.map_some, Ret_returned])
  · by_cases h1 : (2 : Int) ≤ (n : Int)
    · by_cases h2 : (n : Int) ≤ 40
      · have e : fitF v n = true := by simp [fitF]; omega
        rw [e]
        (refine W_at c39_ok ?_; refine ⟨_, rfl, ?_⟩; simp (disch := first | omega | assumption | rfl | (simp only [vcS] <;> omega) | fail) only [↓vcA, vcB, ↓reduceIte, Nat.reduceEqDiff, reduceCtorEq, Option.bind_some, h0])
        (refine W_at c39_ok ?_; refine ⟨_, rfl, ?_⟩; simp (disch := first | omega | assumption | rfl | (simp only [vcS] <;> omega) | fail) only [↓vcA, vcB, ↓reduceIte, Nat.reduceEqDiff])
        (refine W_at c39_ok ?_; refine ⟨_, rfl, ?_⟩; simp (disch := first | omega | assumption | rfl | (simp only [vcS] <;> omega) | fail) only [↓vcA, vcB, ↓reduceIte, Nat.reduceEqDiff, Option.bind_some, h1, h2])
        (refine W_at c39_ok ?_; refine ⟨_, rfl, ?_⟩; simp (disch := first | omega | assumption | rfl | (simp only [vcS] <;> omega) | fail) only [↓vcA, vcB, ↓reduceIte, Option.bind_some, Option.map_some, Ret_returned])
      · have e : fitF v n = false := by simp [fitF]; omega
        rw [e]
        (refine W_at c39_ok ?_; refine ⟨_, rfl, ?_⟩; simp (disch := first | omega | assumption | rfl | (simp only [vcS] <;> omega) | fail) only [↓vcA, vcB, ↓reduceIte, Nat.reduceEqDiff, reduceCtorEq, Option.bind_some, h0])
        (refine W_at c39_ok ?_; refine ⟨_, rfl, ?_⟩; simp (disch := first | omega | assumption | rfl | (simp only [vcS] <;> omega) | fail) only [↓vcA, vcB, ↓reduceIte, Nat.reduceEqDiff])
        (refine W_at c39_ok ?_; refine ⟨_, rfl, ?_⟩; simp (disch := first | omega | assumption | rfl | (simp only [vcS] <;> omega) | fail) only [↓vcA, vcB, ↓reduceIte, Nat.reduceEqDiff, Option.bind_some, h1, h2])
        (refine W_at c39_ok ?_; refine ⟨_, rfl, ?_⟩; simp (disch := first | omega | assumption | rfl | (simp only [vcS] <;> omega) | fail) only [↓vcA, vcB, ↓reduceIte, Option.bind_some, Option.map_some, Ret_returned])
    · have e : fitF v n = false := by simp [fitF]; omega
      rw [e]
      (refine W_at c39_ok ?_; refine ⟨_, rfl, ?_⟩; simp (disch := first | omega | assumption | rfl | (simp only [vcS] <;> omega) | fail) only [↓vcA, vcB, ↓reduceIte, Nat.reduceEqDiff, reduceCtorEq, Option.bind_some, h0])
      (refine W_at c39_ok ?_; refine ⟨_, rfl, ?_⟩; simp (disch := first | omega | assumption | rfl | (simp only [vcS] <;> omega) | fail) only [↓vcA, vcB, ↓reduceIte, Nat.reduceEqDiff])
      (refine W_at c39_ok ?_; refine ⟨_, rfl, ?_⟩; simp (disch := first | omega | assumption | rfl | (simp only [vcS] <;> omega) | fail) only [↓vcA, vcB, ↓reduceIte, Nat.reduceEqDiff, Option.bind_some, h1])
      (refine W_at c39_ok ?_; refine ⟨_, rfl, ?_⟩; simp (disch := first | omega | assumption | rfl | (simp only [vcS] <;> omega) | fail) only [↓vcA, vcB, ↓reduceIte, Option.bind_some, Option.map_some, Ret_returned])
set_option maxHeartbeats 800000 in
theorem segwit_ok (w : World) (h p : List Int) (ver : Int) (v : Value) (hb : byt h) (hm : h.length ≤ maxLen) (hp : Rd w v p) (hpb : byt p) (hpl : p.length ≤ 1000) :
    Calls Tryd.prog 18 #[.string (strOf h), .int .i64 ver, v] w (Ret fun x w' => x = bechR (segE h ver p) ∧ Ext w w') := by
  refine calls_of_cfg c18_ok (Nat.le_of_ble_eq_true rfl) ?_
  simp only [argE_nil, argE_cons, Nat.reduceAdd, Nat.zero_add]
  have hlen := hp.len
  (refine W_at c18_ok ?_; refine ⟨_, rfl, ?_⟩; simp (disch := first | omega | assumption | rfl | (simp only [vcS] <;> omega) | fail) only [↓vcA, vcB, ↓reduceIte, Nat.reduceEqDiff, reduceCtorEq])
  have arg : (ver < 0 ∨ 16 < ver) → ∀ tl, W Tryd.prog (Ret fun x w' => x = bechR (segE h ver p) ∧ Ext w w') 18 10 ((0, .string (strOf h)) :: (1, .int .i64 ver) :: (2, v) :: (15, .bool true) :: tl) w := fun hc tl => by
    rw [segE, if_pos hc]
    (refine W_at c18_ok ?_; refine ⟨_, rfl, ?_⟩; simp (disch := first | omega | assumption | rfl | (simp only [vcS] <;> omega) | fail) only [↓vcA, vcB, ↓reduceIte, Nat.reduceEqDiff, reduceCtorEq])
    (refine W_at c18_ok ?_; refine ⟨_, rfl, ?_⟩; simp (disch := first | omega | assumption | rfl | (simp only [vcS] <;> omega) | fail) only [↓vcA, vcB, ↓reduceIte, Nat.reduceEqDiff])
    (refine W_at c18_ok ?_; refine ⟨_, rfl, ?_⟩; simp (disch := first | omega | assumption | rfl | (simp only [vcS] <;> omega) | fail) only [↓vcA, vcB, ↓reduceIte, Nat.reduceEqDiff, Option.bind_some, Option.map_some, Ret_returned])
    exact ⟨rfl, Keep.refl _ w⟩
  by_cases c1 : ver < 0
  · (refine W_at c18_ok ?_; refine ⟨_, rfl, ?_⟩; simp (disch := first | omega | assumption | rfl | (simp only [vcS] <;> omega) | fail) only [↓vcA, vcB, ↓reduceIte, Nat.reduceEqDiff, reduceCtorEq, Option.bind_some, c1])
    exact arg (.inl c1) _
  by_cases c2 : 16 < ver
  · (refine W_at c18_ok ?_; refine ⟨_, rfl, ?_⟩; simp (disch := first | omega | assumption | rfl | (simp only [vcS] <;> omega) | fail) only [↓vcA, vcB, ↓reduceIte, Nat.reduceEqDiff, reduceCtorEq, Option.bind_some, c1, c2])
    exact arg (.inr c2) _
  have hno : ¬ (ver < 0 ∨ 16 < ver) := by omega
  clear arg
  (refine W_at c18_ok ?_; refine ⟨_, rfl, ?_⟩; simp (disch := first | omega | assumption | rfl | (simp only [vcS] <;> omega) | fail) only [↓vcA, vcB, ↓reduceIte, Nat.reduceEqDiff, reduceCtorEq, Option.bind_some, c1, c2])
  (refine W_at c18_ok ?_; refine ⟨_, rfl, ?_⟩; simp (disch := first | omega | assumption | rfl | (simp only [vcS] <;> omega) | fail) only [↓vcA, vcB, ↓reduceIte, Nat.reduceEqDiff, reduceCtorEq])
  (refine W_at c18_ok ?_; refine ⟨_, rfl, ?_⟩; simp (disch := first | omega | assumption | rfl | (simp only [vcS] <;> omega) | fail) only [↓vcL1, ↓vcA, vcB, ↓reduceIte, Nat.reduceEqDiff, reduceCtorEq, Option.bind_some, Option.map_some, hlen])
  refine callV_ret (fits_ok w ver p.length) ?_
  rintro _ wq ⟨rfl, hw⟩
  obtain rfl : w = wq := hw.symm
  rw [segE, if_neg hno]
  cases hf : fitF ver p.length with
  | false =>
    rw [if_pos rfl]
    simp (disch := first | omega | assumption | rfl | (simp only [vcS] <;> omega) | fail) only [ptS1_eq, ↓vcA, vcB, ↓reduceIte, Nat.reduceEqDiff, reduceCtorEq, Option.bind_some]
    (refine W_at c18_ok ?_; refine ⟨_, rfl, ?_⟩; simp (disch := first | omega | assumption | rfl | (simp only [vcS] <;> omega) | fail) only [↓vcA, vcB, ↓reduceIte, Nat.reduceEqDiff, reduceCtorEq])
    (refine W_at c18_ok ?_; refine ⟨_, rfl, ?_⟩; simp (disch := first | omega | assumption | rfl | (simp only [vcS] <;> omega) | fail) only [↓vcA, vcB, ↓reduceIte, Nat.reduceEqDiff])
    (refine W_at c18_ok ?_; refine ⟨_, rfl, ?_⟩; simp (disch := first | omega | assumption | rfl | (simp only [vcS] <;> omega) | fail) only [↓vcA, vcB, ↓reduceIte, Nat.reduceEqDiff, Option.bind_some, Option.map_some, Ret_returned])
    exact ⟨rfl, Keep.refl _ w⟩
  | true =>
    rw [if_neg (by decide)]
    have hdf := reg85_b p
    obtain ⟨hd1, hd2⟩ := regE_fine p 8 5 true
    simp (disch := first | omega | assumption | rfl | (simp only [vcS] <;> omega) | fail) only [ptS1_eq, ↓vcA, vcB, ↓reduceIte, Nat.reduceEqDiff, reduceCtorEq, Option.bind_some]
    (refine W_at c18_ok ?_; refine ⟨_, rfl, ?_⟩; simp (disch := first | omega | assumption | rfl | (simp only [vcS] <;> omega) | fail) only [↓vcA, vcB, ↓reduceIte, Nat.reduceEqDiff, reduceCtorEq])
    (refine W_at c18_ok ?_; refine ⟨_, rfl, ?_⟩; simp (disch := first | omega | assumption | rfl | (simp only [vcS] <;> omega) | fail) only [↓vcL1, ↓vcA, vcB, ↓reduceIte, Nat.reduceEqDiff, reduceCtorEq, Option.bind_some, Option.map_some])
    refine callV_ret (regroup_ok w v p 8 5 true hp hpb (by omega)) ?_
    rintro _ w2 ⟨x, rfl, hN⟩
    generalize (regE p 8 5 true).1 = ds at *
    simp (disch := first | omega | assumption | rfl | (simp only [vcS] <;> omega) | fail) only [ptS1_eq, ↓vcA, vcB, ↓reduceIte, Nat.reduceEqDiff, reduceCtorEq, Option.bind_some, List.getElem?_toArray, List.getElem?_cons_zero, List.getElem?_cons_succ]
    have w8 : IntKind.u8.wrap ver = ver := by rw [wrap_u8]; omega
    have hL : New w2 (w2.alloc (.cells (bv [ver]).toArray 5)) (.slice (some ⟨w2.heap.size, 0, none⟩) 1 1) [ver] := New.lit (bs := [ver]) (by simp [maxLen])
    (refine W_at c18_ok ?_; refine ⟨_, rfl, ?_⟩; simp (disch := first | omega | assumption | rfl | (simp only [vcS] <;> omega) | fail) only [↓vcL1, ↓vcA, vcB, ↓reduceIte, Nat.reduceEqDiff, reduceCtorEq, Option.bind_some, Option.map_some, List.length_cons, List.length_nil, vcM, w8])
    refine appN hL (hN.own.rd.ext hL.ext) (by rw [List.length_cons, List.length_nil]; omega) fun v3 w3 n3 _ _ => ?_
    have hE3 : Ext w w3 := hN.ext.ext n3.ext
    have hdb : byt (ver :: ds) := fun y hy => by
      rcases List.mem_cons.1 hy with rfl | hy
      · omega
      · exact hd1 y hy
    have hrd : Rd w3 v3 (ver :: ds) := n3.own.rd
    by_cases h0 : ver = 0
    · have hd0 : decide (ver ≠ 0) = false := by simp [h0]
      have hgt : ¬ (0 : Int) < ver := by omega
      rw [hd0]
      first | (simp (disch := first | omega | assumption | rfl | (simp only [vcS] <;> omega) | fail) only [↓vcL2, ptS1_eq, ↓vcA, vcB, ↓reduceIte, Nat.reduceEqDiff, reduceCtorEq, Option.bind_some, Option.map_some, h0]) | skip
      subst h0
      refine callV_ret (bech32_ok w3 h (0 :: ds) false v3 hb hm hrd hdb (by rw [List.length_cons]; omega)) ?_
      rintro _ w4 ⟨rfl, hE4⟩
      unfold bechR
      have hE5 := hE3.ext hE4
      first | (simp (disch := first | omega | assumption | rfl | (simp only [vcS] <;> omega) | fail) only [ptS2_eq, ↓vcA, vcB, ↓reduceIte, Nat.reduceEqDiff, Option.bind_some, List.getElem?_toArray, List.getElem?_cons_zero, List.getElem?_cons_succ]) | (simp (disch := first | omega | assumption | rfl | (simp only [vcS] <;> omega) | fail) only [↓vcL2, ptS1_eq, ↓vcA, vcB, ↓vcD, vcE, ↓reduceIte, Nat.reduceEqDiff, Nat.reduceAdd, Nat.reduceMul, Nat.reduceLeDiff, Int.reduceLE, Int.reduceLT, Int.reduceEq, Int.reduceToNat, Int.reduceAdd, Int.reduceSub, Int.reduceMul, Int.reduceNeg, reduceCtorEq, Option.bind_some, Option.map_some, List.length_cons, List.length_nil, vcM, List.getElem?_toArray, List.getElem?_cons_zero, List.getElem?_cons_succ])
      (refine W_at c18_ok ?_; refine ⟨_, rfl, ?_⟩; simp (disch := first | omega | assumption | rfl | (simp only [vcS] <;> omega) | fail) only [↓vcA, vcB, ↓reduceIte, Nat.reduceEqDiff, Option.bind_some, Option.map_some, Ret_returned])
      first | exact hE5 | exact ⟨rfl, hE5⟩
    · have hd0 : decide (ver ≠ 0) = true := by simp [h0]
      have hgt : (0 : Int) < ver := by omega
      rw [hd0]
      first | (simp (disch := first | omega | assumption | rfl | (simp only [vcS] <;> omega) | fail) only [↓vcL2, ptS1_eq, ↓vcA, vcB, ↓reduceIte, Nat.reduceEqDiff, reduceCtorEq, Option.bind_some, Option.map_some, h0]) | skip
      refine callV_ret (bech32_ok w3 h (ver :: ds) true v3 hb hm hrd hdb (by rw [List.length_cons]; omega)) ?_
      rintro _ w4 ⟨rfl, hE4⟩
      unfold bechR
      have hE5 := hE3.ext hE4
      first | (simp (disch := first | omega | assumption | rfl | (simp only [vcS] <;> omega) | fail) only [ptS2_eq, ↓vcA, vcB, ↓reduceIte, Nat.reduceEqDiff, Option.bind_some, List.getElem?_toArray, List.getElem?_cons_zero, List.getElem?_cons_succ]) | (simp (disch := first | omega | assumption | rfl | (simp only [vcS] <;> omega) | fail) only [↓vcL2, ptS1_eq, ↓vcA, vcB, ↓vcD, vcE, ↓reduceIte, Nat.reduceEqDiff, Nat.reduceAdd, Nat.reduceMul, Nat.reduceLeDiff, Int.reduceLE, Int.reduceLT, Int.reduceEq, Int.reduceToNat, Int.reduceAdd, Int.reduceSub, Int.reduceMul, Int.reduceNeg, reduceCtorEq, Option.bind_some, Option.map_some, List.length_cons, List.length_nil, vcM, List.getElem?_toArray, List.getElem?_cons_zero, List.getElem?_cons_succ])
      (refine W_at c18_ok ?_; refine ⟨_, rfl, ?_⟩; simp (disch := first | omega | assumption | rfl | (simp only [vcS] <;> omega) | fail) only [↓vcA, vcB, ↓reduceIte, Nat.reduceEqDiff, Option.bind_some, Option.map_some, Ret_returned])
      first | exact hE5 | exact ⟨rfl, hE5⟩
end Go.Proofs
namespace Go.Proofs
open Go.Vc
set_option maxRecDepth 10000

structure Wit where
  v : Int
  p : List Int
  e : Int
def noWit (e : Int) : Wit := ⟨0, [], e⟩
def witD (v : Int) (ds : List Int) (m : Bool) : Wit :=
  if 16 < v ∨ m ≠ decide (v ≠ 0) then noWit 3
  else if (regE ds 5 8 false).2 ≠ 0 then noWit (regE ds 5 8 false).2
  else if fitF v (regE ds 5 8 false).1.length = false then noWit 2
  else ⟨v, (regE ds 5 8 false).1, 0⟩
def witOf (r : Read) (h : List Int) : Wit :=
  if r.e ≠ 0 then noWit r.e else if r.h ≠ h then noWit 7 else match r.d with
  | [] => noWit 3
  | v :: ds => witD v ds r.m
def witR (r : Wit) (x : Value) : Value := .tuple #[.int .i64 r.v, x, .int .i64 r.e]
def WitTo (w w' : World) (r : Wit) (u : Value) : Prop := ∃ x, u = witR r x ∧ Rd w' x r.p ∧ Ext w w'
theorem noWit_ext {w w' : World} (h : Ext w w') (e : Int) : WitTo w w' (noWit e) (.tuple #[.int .i64 0, .slice none 0 0, .int .i64 e]) := ⟨_, rfl, Rd.nil w', h⟩
theorem readV_fine {h vs : List Int} (hb : byt h) (hv : ∀ v ∈ vs, -1 ≤ v ∧ v ≤ 31) : byt (readV h vs).h ∧ five (readV h vs).d ∧ (readV h vs).d.length ≤ vs.length := by
  unfold readV
  split
  · exact ⟨byt_nil, fun v hv => (by cases hv), by simp [noRead]⟩
  · rename_i hn
    split
    · exact ⟨byt_nil, fun v hv => (by cases hv), by simp [noRead]⟩
    · refine ⟨hb, fun v hm => ?_, by simp [List.length_take]⟩
      have hm2 := List.mem_of_mem_take hm
      have h1 := hv v hm2
      have h2 : ¬ v < 0 := fun hc => hn (List.any_eq_true.2 ⟨v, hm2, decide_eq_true hc⟩)
      omega
theorem fromE_fine {s : List Int} : byt (fromE s).h ∧ five (fromE s).d ∧ (fromE s).d.length ≤ 90 := by
  unfold fromE
  split
  · exact ⟨byt_nil, fun v hv => (by cases hv), by simp [noRead]⟩
  · rename_i h90
    obtain ⟨h1, h2⟩ := plain_fine (s := s)
    unfold fromP
    split
    · exact ⟨byt_nil, fun v hv => (by cases hv), by simp [noRead]⟩
    · obtain ⟨k1, k2, k3⟩ := readV_fine (h := (plainE s).1.take (lastF (plainE s).1 0).toNat) (vs := valsF ((plainE s).1.drop ((lastF (plainE s).1 0).toNat + 1))) (byt_take h1 _) vals_b
      refine ⟨k1, k2, Nat.le_trans k3 ?_⟩
      rw [valsF, List.length_map, List.length_drop]; omega
set_option maxHeartbeats 1000000 in
theorem fromSeg_ok (w : World) (h s : List Int) (hb : byt h) (hsb : byt s) (hsm : s.length ≤ maxLen) :
    Calls Tryd.prog 16 #[.string (strOf h), .string (strOf s)] w (Ret fun u w' => WitTo w w' (witOf (fromE s) h) u) := by
  refine calls_of_cfg c16_ok (Nat.le_of_ble_eq_true rfl) ?_
  simp only [argE_nil, argE_cons, Nat.reduceAdd, Nat.zero_add]
  (refine W_at c16_ok ?_; refine ⟨_, rfl, ?_⟩; simp (disch := first | omega | assumption | rfl | (simp only [vcS] <;> omega) | fail) only [↓vcA, vcB, ↓reduceIte, Nat.reduceEqDiff, reduceCtorEq])
  (refine W_at c16_ok ?_; refine ⟨_, rfl, ?_⟩; simp (disch := first | omega | assumption | rfl | (simp only [vcS] <;> omega) | fail) only [↓vcL1, ↓vcA, vcB, ↓reduceIte, reduceCtorEq, Option.bind_some, Option.map_some])
  refine callV_ret (from_ok w s hsb hsm) ?_
  rintro _ w1 ⟨y, rfl, hy, hE1⟩
  obtain ⟨hrb, hr5, hrl⟩ := fromE_fine (s := s)
  generalize fromE s = r at *
  obtain ⟨rh, rd, rm, re⟩ := r
  simp only at hy hrb hr5 hrl
  have er : readR ⟨rh, rd, rm, re⟩ y = .tuple #[.string (strOf rh), y, .bool rm, .int .i64 re] := rfl
  rw [er]
  simp (disch := first | omega | assumption | rfl | (simp only [vcS] <;> omega) | fail) only [ptS1_eq, ↓vcA, vcB, ↓reduceIte, Nat.reduceEqDiff, reduceCtorEq, Option.bind_some, List.getElem?_toArray, List.getElem?_cons_zero, List.getElem?_cons_succ]
  by_cases he : ¬ re = 0
  · rw [witOf, if_pos he]
    (refine W_at c16_ok ?_; refine ⟨_, rfl, ?_⟩; simp (disch := first | omega | assumption | rfl | (simp only [vcS] <;> omega) | fail) only [↓vcA, vcB, ↓reduceIte, Nat.reduceEqDiff, reduceCtorEq, Option.bind_some, he])
    (refine W_at c16_ok ?_; refine ⟨_, rfl, ?_⟩; simp (disch := first | omega | assumption | rfl | (simp only [vcS] <;> omega) | fail) only [↓vcA, vcB, ↓reduceIte, Nat.reduceEqDiff, reduceCtorEq])
    (refine W_at c16_ok ?_; refine ⟨_, rfl, ?_⟩; simp (disch := first | omega | assumption | rfl | (simp only [vcS] <;> omega) | fail) only [↓vcA, vcB, ↓reduceIte, Nat.reduceEqDiff, reduceCtorEq])
    (refine W_at c16_ok ?_; refine ⟨_, rfl, ?_⟩; simp (disch := first | omega | assumption | rfl | (simp only [vcS] <;> omega) | fail) only [↓vcA, vcB, ↓reduceIte, Nat.reduceEqDiff, Option.bind_some, Option.map_some, Ret_returned])
    exact noWit_ext hE1 re
  replace he := Decidable.not_not.1 he
  subst he
  (refine W_at c16_ok ?_; refine ⟨_, rfl, ?_⟩; simp (disch := first | omega | assumption | rfl | (simp only [vcS] <;> omega) | fail) only [↓vcA, vcB, ↓reduceIte, Nat.reduceEqDiff, reduceCtorEq, Option.bind_some])
  (refine W_at c16_ok ?_; refine ⟨_, rfl, ?_⟩; simp (disch := first | omega | assumption | rfl | (simp only [vcS] <;> omega) | fail) only [↓vcA, vcB, ↓reduceIte, Nat.reduceEqDiff, reduceCtorEq])
  have hdd : decide (strOf rh = strOf h) = decide (rh = h) := decide_eq_decide.2 (strOf_inj hrb hb)
  by_cases hh : ¬ rh = h
  · have d1 := decide_eq_false hh
    rw [d1] at hdd
    rw [witOf, if_neg (by simp), if_pos hh]
    (refine W_at c16_ok ?_; refine ⟨_, rfl, ?_⟩; simp (disch := first | omega | assumption | rfl | (simp only [vcS] <;> omega) | fail) only [↓vcA, vcB, ↓reduceIte, Nat.reduceEqDiff, reduceCtorEq, Option.bind_some, hdd])
    (refine W_at c16_ok ?_; refine ⟨_, rfl, ?_⟩; simp (disch := first | omega | assumption | rfl | (simp only [vcS] <;> omega) | fail) only [↓vcA, vcB, ↓reduceIte, Nat.reduceEqDiff])
    (refine W_at c16_ok ?_; refine ⟨_, rfl, ?_⟩; simp (disch := first | omega | assumption | rfl | (simp only [vcS] <;> omega) | fail) only [↓vcA, vcB, ↓reduceIte, Nat.reduceEqDiff])
    (refine W_at c16_ok ?_; refine ⟨_, rfl, ?_⟩; simp (disch := first | omega | assumption | rfl | (simp only [vcS] <;> omega) | fail) only [↓vcA, vcB, ↓reduceIte, Nat.reduceEqDiff, Option.bind_some, Option.map_some, Ret_returned])
    exact noWit_ext hE1 7
  replace hh := Decidable.not_not.1 hh
  have d1 := decide_eq_true hh
  rw [d1] at hdd
  rw [witOf, if_neg (by simp), if_neg (by simpa using hh)]
  simp only
  (refine W_at c16_ok ?_; refine ⟨_, rfl, ?_⟩; simp (disch := first | omega | assumption | rfl | (simp only [vcS] <;> omega) | fail) only [↓vcA, vcB, ↓reduceIte, Nat.reduceEqDiff, reduceCtorEq, Option.bind_some, hdd])
  (refine W_at c16_ok ?_; refine ⟨_, rfl, ?_⟩; simp (disch := first | omega | assumption | rfl | (simp only [vcS] <;> omega) | fail) only [↓vcA, vcB, ↓reduceIte, Nat.reduceEqDiff])
  have hlen := hy.len
  cases rd with
  | nil =>
    have hlen : lenR y = some (.int .i64 0) := hlen
    (refine W_at c16_ok ?_; refine ⟨_, rfl, ?_⟩; simp (disch := first | omega | assumption | rfl | (simp only [vcS] <;> omega) | fail) only [↓vcA, vcB, ↓reduceIte, Nat.reduceEqDiff, Option.bind_some, hlen])
    (refine W_at c16_ok ?_; refine ⟨_, rfl, ?_⟩; simp (disch := first | omega | assumption | rfl | (simp only [vcS] <;> omega) | fail) only [↓vcA, vcB, ↓reduceIte, Nat.reduceEqDiff])
    (refine W_at c16_ok ?_; refine ⟨_, rfl, ?_⟩; simp (disch := first | omega | assumption | rfl | (simp only [vcS] <;> omega) | fail) only [↓vcA, vcB, ↓reduceIte, Nat.reduceEqDiff])
    (refine W_at c16_ok ?_; refine ⟨_, rfl, ?_⟩; simp (disch := first | omega | assumption | rfl | (simp only [vcS] <;> omega) | fail) only [↓vcA, vcB, ↓reduceIte, Nat.reduceEqDiff, Option.bind_some, Option.map_some, Ret_returned])
    exact noWit_ext hE1 3
  | cons v ds =>
    have hv5 := hr5 v (by simp)
    have hds5 : five ds := fun z hz => hr5 z (by simp [hz])
    obtain ⟨b, o, c, hyv, hcell⟩ := hy.at (i := 0) (by simp)
    simp only [List.getElem_cons_zero, Nat.add_zero, List.length_cons] at hcell hyv hlen hrl
    have hyc : ds.length + 1 ≤ c := by
      obtain ⟨q', c', e, hc'⟩ := hy.is
      rw [hyv] at e
      cases e; simpa using hc'
    subst hyv
    show W Tryd.prog (Ret fun u w' => WitTo w w' (witD v ds rm) u) _ _ _ _
    have t1 : (!(true == false)) = true := rfl
    have t2 : (!(false == true)) = true := rfl
    have t3 : (!(true == true)) = false := rfl
    have t4 : (!(false == false)) = false := rfl
    have hpos : (0 : Int) < ((ds.length + 1 : Nat) : Int) := by omega
    have hnz : ¬ ((ds.length + 1 : Nat) : Int) = 0 := by omega
    have bad : ∀ u w', u = .tuple #[.int .i64 0, .slice none 0 0, .int .i64 3] → Ext w w' → (16 < v ∨ rm ≠ decide (v ≠ 0)) → WitTo w w' (witD v ds rm) u := fun u w' hu hE hc => by
      rw [hu, witD, if_pos hc]; exact noWit_ext hE 3
    by_cases h16 : 16 < v
    · (refine W_at c16_ok ?_; refine ⟨_, rfl, ?_⟩; simp (disch := first | omega | assumption | rfl | (simp only [vcS] <;> omega) | fail) only [↓vcA, vcB, ↓reduceIte, Nat.reduceEqDiff, Int.reduceLE, Option.bind_some, vcM, hlen, hnz, hpos, hcell, h16, Int.toNat_zero])
      (refine W_at c16_ok ?_; refine ⟨_, rfl, ?_⟩; simp (disch := first | omega | assumption | rfl | (simp only [vcS] <;> omega) | fail) only [↓vcA, vcB, ↓reduceIte, Nat.reduceEqDiff])
      (refine W_at c16_ok ?_; refine ⟨_, rfl, ?_⟩; simp (disch := first | omega | assumption | rfl | (simp only [vcS] <;> omega) | fail) only [↓vcA, vcB, ↓reduceIte, Nat.reduceEqDiff])
      (refine W_at c16_ok ?_; refine ⟨_, rfl, ?_⟩; simp (disch := first | omega | assumption | rfl | (simp only [vcS] <;> omega) | fail) only [↓vcA, vcB, ↓reduceIte, Nat.reduceEqDiff, Option.bind_some, Option.map_some, Ret_returned])
      exact bad _ _ rfl hE1 (.inl h16)
    by_cases hmv : rm ≠ decide (v ≠ 0)
    · by_cases hv0 : v = 0
      · have hr : rm = true := by cases rm <;> simp_all
        subst hr
        subst hv0
        have hg0 : ¬ (0 : Int) < 0 := by omega
        (refine W_at c16_ok ?_; refine ⟨_, rfl, ?_⟩; simp (disch := first | omega | assumption | rfl | (simp only [vcS] <;> omega) | fail) only [↓vcA, vcB, ↓reduceIte, Nat.reduceEqDiff, Int.reduceLE, Option.bind_some, vcM, hlen, hnz, hpos, hcell, h16, t1, Int.toNat_zero])
        (refine W_at c16_ok ?_; refine ⟨_, rfl, ?_⟩; simp (disch := first | omega | assumption | rfl | (simp only [vcS] <;> omega) | fail) only [↓vcA, vcB, ↓reduceIte, Nat.reduceEqDiff])
        (refine W_at c16_ok ?_; refine ⟨_, rfl, ?_⟩; simp (disch := first | omega | assumption | rfl | (simp only [vcS] <;> omega) | fail) only [↓vcA, vcB, ↓reduceIte, Nat.reduceEqDiff])
        (refine W_at c16_ok ?_; refine ⟨_, rfl, ?_⟩; simp (disch := first | omega | assumption | rfl | (simp only [vcS] <;> omega) | fail) only [↓vcA, vcB, ↓reduceIte, Nat.reduceEqDiff, Option.bind_some, Option.map_some, Ret_returned])
        exact bad _ _ rfl hE1 (.inr hmv)
      · have hr : rm = false := by cases rm <;> simp_all
        subst hr
        have hg0 : (0 : Int) < v := by omega
        (refine W_at c16_ok ?_; refine ⟨_, rfl, ?_⟩; simp (disch := first | omega | assumption | rfl | (simp only [vcS] <;> omega) | fail) only [↓vcA, vcB, ↓reduceIte, Nat.reduceEqDiff, Int.reduceLE, Option.bind_some, vcM, hlen, hnz, hpos, hcell, h16, hv0, t2, Int.toNat_zero])
        (refine W_at c16_ok ?_; refine ⟨_, rfl, ?_⟩; simp (disch := first | omega | assumption | rfl | (simp only [vcS] <;> omega) | fail) only [↓vcA, vcB, ↓reduceIte, Nat.reduceEqDiff])
        (refine W_at c16_ok ?_; refine ⟨_, rfl, ?_⟩; simp (disch := first | omega | assumption | rfl | (simp only [vcS] <;> omega) | fail) only [↓vcA, vcB, ↓reduceIte, Nat.reduceEqDiff])
        (refine W_at c16_ok ?_; refine ⟨_, rfl, ?_⟩; simp (disch := first | omega | assumption | rfl | (simp only [vcS] <;> omega) | fail) only [↓vcA, vcB, ↓reduceIte, Nat.reduceEqDiff, Option.bind_some, Option.map_some, Ret_returned])
        exact bad _ _ rfl hE1 (.inr hmv)
    replace hmv := Decidable.not_not.1 hmv
    have hW : witD v ds rm = (if (regE ds 5 8 false).2 ≠ 0 then noWit (regE ds 5 8 false).2 else if fitF v (regE ds 5 8 false).1.length = false then noWit 2 else ⟨v, (regE ds 5 8 false).1, 0⟩) := by
      rw [witD, if_neg]
      rintro (k | k)
      · exact h16 k
      · exact k hmv
    rw [hW]
    clear bad
    have hcut := Rd.cut (w := w1) (q := some ⟨b, o, none⟩) (n := ds.length + 1) (c := c) (bs := v :: ds) hy (l := 1) (j := ds.length + 1) (by omega) (by omega)
    rw [List.take_of_length_le (by simp)] at hcut
    simp only [List.drop_succ_cons, List.drop_zero] at hcut
    have h1c : (1 : Int) ≤ ((ds.length + 1 : Nat) : Int) := by omega
    have tail : ∀ tl, W Tryd.prog (Ret fun u w' => WitTo w w' (if (regE ds 5 8 false).2 ≠ 0 then noWit (regE ds 5 8 false).2 else if fitF v (regE ds 5 8 false).1.length = false then noWit 2 else ⟨v, (regE ds 5 8 false).1, 0⟩) u) 16 11 ((8, .slice (some ⟨b, o, none⟩) (ds.length + 1) c) :: tl) w1 := fun tl => by
      (refine W_at c16_ok ?_; refine ⟨_, rfl, ?_⟩; simp (disch := first | omega | assumption | rfl | (simp only [vcS] <;> omega) | fail) only [↓vcL1, ↓vcA, vcB, ↓reduceIte, Int.reduceLE, Int.reduceToNat, Option.bind_some, Option.map_some, h1c])
      refine callV_ret (regroup_ok w1 _ ds 5 8 false hcut (five_byt hds5) (by omega)) ?_
      rintro _ w2 ⟨x, rfl, hN⟩
      have hE2 : Ext w w2 := hE1.ext hN.ext
      have hcell2 : cellO w2.heap[b]? o = some (.int .u8 v) := by
        obtain ⟨b', o', c', e, hc2⟩ := (hy.ext hN.ext).at (i := 0) (by simp)
        cases e
        simpa using hc2
      obtain ⟨hqb, hql⟩ := regE_fine ds 5 8 false
      generalize regE ds 5 8 false = q at *
      obtain ⟨q1, q2⟩ := q
      simp only at hqb hql hN ⊢
      have hlx := hN.own.rd.len
      simp (disch := first | omega | assumption | rfl | (simp only [vcS] <;> omega) | fail) only [ptS1_eq, ↓vcA, vcB, ↓reduceIte, Nat.reduceEqDiff, Option.bind_some, List.getElem?_toArray, List.getElem?_cons_zero, List.getElem?_cons_succ]
      by_cases hq : ¬ q2 = 0
      · rw [if_pos hq]
        (refine W_at c16_ok ?_; refine ⟨_, rfl, ?_⟩; simp (disch := first | omega | assumption | rfl | (simp only [vcS] <;> omega) | fail) only [↓vcA, vcB, ↓reduceIte, Nat.reduceEqDiff, Option.bind_some, hq])
        (refine W_at c16_ok ?_; refine ⟨_, rfl, ?_⟩; simp (disch := first | omega | assumption | rfl | (simp only [vcS] <;> omega) | fail) only [↓vcA, vcB, ↓reduceIte, Nat.reduceEqDiff])
        (refine W_at c16_ok ?_; refine ⟨_, rfl, ?_⟩; simp (disch := first | omega | assumption | rfl | (simp only [vcS] <;> omega) | fail) only [↓vcA, vcB, ↓reduceIte, Nat.reduceEqDiff])
        (refine W_at c16_ok ?_; refine ⟨_, rfl, ?_⟩; simp (disch := first | omega | assumption | rfl | (simp only [vcS] <;> omega) | fail) only [↓vcA, vcB, ↓reduceIte, Nat.reduceEqDiff, Option.bind_some, Option.map_some, Ret_returned])
        exact noWit_ext hE2 q2
      replace hq := Decidable.not_not.1 hq
      subst hq
      rw [if_neg (by simp)]
      have w64 : IntKind.i64.wrap v = v := wrap_i64 (by omega) (by omega)
      (refine W_at c16_ok ?_; refine ⟨_, rfl, ?_⟩; simp (disch := first | omega | assumption | rfl | (simp only [vcS] <;> omega) | fail) only [↓vcA, vcB, ↓reduceIte, Nat.reduceEqDiff, Option.bind_some])
      (refine W_at c16_ok ?_; refine ⟨_, rfl, ?_⟩; simp (disch := first | omega | assumption | rfl | (simp only [vcS] <;> omega) | fail) only [↓vcA, vcB, ↓reduceIte, Nat.reduceEqDiff])
      (refine W_at c16_ok ?_; refine ⟨_, rfl, ?_⟩; simp (disch := first | omega | assumption | rfl | (simp only [vcS] <;> omega) | fail) only [↓vcL1, ↓vcA, vcB, ↓reduceIte, Nat.reduceEqDiff, Int.reduceLE, Option.bind_some, Option.map_some, vcM, hpos, hcell2, hlx, w64, Int.toNat_zero])
      refine callV_ret (fits_ok w2 v q1.length) ?_
      rintro _ wq ⟨rfl, hw⟩
      obtain rfl : w2 = wq := hw.symm
      cases hf : fitF v q1.length with
      | false =>
        rw [if_pos rfl]
        simp (disch := first | omega | assumption | rfl | (simp only [vcS] <;> omega) | fail) only [ptS1_eq, ↓vcA, vcB, ↓reduceIte, Nat.reduceEqDiff, Option.bind_some]
        (refine W_at c16_ok ?_; refine ⟨_, rfl, ?_⟩; simp (disch := first | omega | assumption | rfl | (simp only [vcS] <;> omega) | fail) only [↓vcA, vcB, ↓reduceIte, Nat.reduceEqDiff])
        (refine W_at c16_ok ?_; refine ⟨_, rfl, ?_⟩; simp (disch := first | omega | assumption | rfl | (simp only [vcS] <;> omega) | fail) only [↓vcA, vcB, ↓reduceIte, Nat.reduceEqDiff])
        (refine W_at c16_ok ?_; refine ⟨_, rfl, ?_⟩; simp (disch := first | omega | assumption | rfl | (simp only [vcS] <;> omega) | fail) only [↓vcA, vcB, ↓reduceIte, Nat.reduceEqDiff, Option.bind_some, Option.map_some, Ret_returned])
        exact noWit_ext hE2 2
      | true =>
        rw [if_neg (by decide)]
        simp (disch := first | omega | assumption | rfl | (simp only [vcS] <;> omega) | fail) only [ptS1_eq, ↓vcA, vcB, ↓reduceIte, Nat.reduceEqDiff, Option.bind_some]
        (refine W_at c16_ok ?_; refine ⟨_, rfl, ?_⟩; simp (disch := first | omega | assumption | rfl | (simp only [vcS] <;> omega) | fail) only [↓vcA, vcB, ↓reduceIte, Nat.reduceEqDiff])
        (refine W_at c16_ok ?_; refine ⟨_, rfl, ?_⟩; simp (disch := first | omega | assumption | rfl | (simp only [vcS] <;> omega) | fail) only [↓vcA, vcB, ↓reduceIte, Nat.reduceEqDiff, Int.reduceLE, Option.bind_some, vcM, hpos, hcell2, w64, Int.toNat_zero])
        (refine W_at c16_ok ?_; refine ⟨_, rfl, ?_⟩; simp (disch := first | omega | assumption | rfl | (simp only [vcS] <;> omega) | fail) only [↓vcA, vcB, ↓reduceIte, Nat.reduceEqDiff, Option.bind_some, Option.map_some, Ret_returned])
        exact ⟨x, rfl, hN.own.rd, hE2⟩
    by_cases hv0 : v = 0
    · have hr : rm = false := by rw [hmv]; simp [hv0]
      subst hr
      subst hv0
      have hg0 : ¬ (0 : Int) < 0 := by omega
      (refine W_at c16_ok ?_; refine ⟨_, rfl, ?_⟩; simp (disch := first | omega | assumption | rfl | (simp only [vcS] <;> omega) | fail) only [↓vcA, vcB, ↓reduceIte, Nat.reduceEqDiff, Int.reduceLE, Option.bind_some, vcM, hlen, hnz, hpos, hcell, h16, t4, Int.toNat_zero])
      (refine W_at c16_ok ?_; refine ⟨_, rfl, ?_⟩; simp (disch := first | omega | assumption | rfl | (simp only [vcS] <;> omega) | fail) only [↓vcA, vcB, ↓reduceIte, Nat.reduceEqDiff])
      exact tail _
    · have hr : rm = true := by rw [hmv]; simp [hv0]
      subst hr
      have hg0 : (0 : Int) < v := by omega
      (refine W_at c16_ok ?_; refine ⟨_, rfl, ?_⟩; simp (disch := first | omega | assumption | rfl | (simp only [vcS] <;> omega) | fail) only [↓vcA, vcB, ↓reduceIte, Nat.reduceEqDiff, Int.reduceLE, Option.bind_some, vcM, hlen, hnz, hpos, hcell, h16, hv0, t3, Int.toNat_zero])
      (refine W_at c16_ok ?_; refine ⟨_, rfl, ?_⟩; simp (disch := first | omega | assumption | rfl | (simp only [vcS] <;> omega) | fail) only [↓vcA, vcB, ↓reduceIte, Nat.reduceEqDiff])
      exact tail _
end Go.Proofs
namespace Go.Proofs
open Go.Vc
set_option maxRecDepth 10000

def isUp (c : Int) : Bool := decide (65 ≤ c) && decide (c ≤ 90)
def isLo (c : Int) : Bool := decide (97 ≤ c) && decide (c ≤ 122)
theorem lwF_same {c : Int} : lwF c = c ↔ isUp c = false := by
  unfold lwF isUp
  split <;> simp <;> omega
theorem upF_same {c : Int} : upF c = c ↔ isLo c = false := by
  unfold upF isLo
  split <;> simp <;> omega
theorem map_same {f : Int → Int} {b : Int → Bool} (hf : ∀ c, f c = c ↔ b c = false) : ∀ (l : List Int), decide (l = l.map f) = !(l.any b)
  | [] => by simp
  | c :: l => by
    have ih := map_same hf l
    rw [Bool.eq_iff_iff] at ih ⊢
    simp only [decide_eq_true_iff, Bool.not_eq_true', List.map_cons, List.cons.injEq, List.any_cons, Bool.or_eq_false_iff] at ih ⊢
    constructor
    · rintro ⟨h1, h2⟩; exact ⟨(hf c).1 h1.symm, ih.1 h2⟩
    · rintro ⟨h1, h2⟩; exact ⟨((hf c).2 h1).symm, ih.2 h2⟩
theorem lastF_app : ∀ (l : List Int) (c : Int) (k : Nat), lastF (l ++ [c]) k = if c = 49 then ((k + l.length : Nat) : Int) else lastF l k
  | [], c, k => by
    by_cases h : c = 49
    · simp [lastF, h]
    · simp [lastF, h]
  | b :: l, c, k => by
    rw [List.cons_append, lastF, lastF_app l c (k + 1)]
    by_cases h : c = 49
    · rw [if_pos h, if_pos h, if_pos (by omega), List.length_cons]
      congr 1; omega
    · rw [if_neg h, if_neg h, lastF]
/-- Behind the letters: the sum. -/
theorem rread_sum (w0 w : World) (t : List Int) (a : Nat) (V : List Int) (vb vt : Value) (i : Int) (tl : Env) (ht : byt t) (htl : t.length ≤ 1000) (ha : a < t.length) (hE : Ext w0 w) (hV : Rd w vb V) (hT : Rd w vt t) (h5 : five V) (hVl : 6 ≤ V.length ∧ V.length ≤ 1000) :
    W Tryd.prog (Ret fun u w' => ReadTo w0 w' (readV (t.take a) V) u) 15 7 ((8, .int .i64 a) :: (9, vt) :: (12, vb) :: (13, .int .i64 i) :: tl) w := by
  rw [readV, if_neg (no_neg h5)]
  have hD : Ext w w.drew := (Keep.refl _ w).drew
  have cutb : ∀ wz, Ext w wz → ∀ q cp, vt = .slice q t.length cp → b2sR wz (.slice q (a - 0) (cp - 0)) = some (.string (strOf (t.take a))) := fun wz hz q cp e => by
    subst e
    have h1 := Rd.cut (w := wz) (hT.ext hz) (l := 0) (j := a) (by omega) (by omega)
    rw [advA_0, List.drop_zero] at h1
    exact h1.b2s
  have hcb : ∃ q cp, vt = .slice q t.length cp ∧ t.length ≤ cp := by
    obtain ⟨⟨q, cp, e, hc⟩, _, _⟩ := hT
    exact ⟨q, cp, e, hc⟩
  obtain ⟨q, cp, e, hcp⟩ := hcb
  subst e
  have b1 : 0 ≤ (a : Int) ∧ (a : Int) ≤ (cp : Int) := by omega
  have s1 := cutb w (Keep.refl _ w) q cp rfl
  have s2 := cutb w.drew hD q cp rfl
  have hhb : byt (t.take a) := byt_take ht a
  have hhl : (t.take a).length ≤ 1000 := by rw [List.length_take]; omega
  have hTq := hT
  generalize t.take a = h at *
  have e1 : Value.int .u64 1 = U64 (constB false) := rfl
  have e2 : Value.int .u64 734539939 = U64 (constB true) := rfl
  generalize hr0 : (if runB 25 bechG (spreadF h ++ V) ≠ constB false ∧ runB 25 bechG (spreadF h ++ V) ≠ constB true then noRead 5 else (⟨h, V.take (V.length - 6), decide (runB 25 bechG (spreadF h ++ V) = constB true), 0⟩ : Read)) = R0
  (refine W_at c15_ok ?_; refine ⟨_, rfl, ?_⟩; simp (disch := first | omega | assumption | rfl | (simp only [vcS] <;> omega) | fail) only [↓ptV_l, ↓vcA, vcB, ↓reduceIte, Nat.reduceEqDiff, Option.bind_some, Option.map_some, b1, Int.toNat_natCast, s1])
  refine callV_ret (rsum_ok w h V vb hhb (by omega) hV (five_byt h5) (by omega)) ?_
  rintro _ w4 ⟨rfl, hE4⟩
  have hE5 : Ext w w4 := hE4
  have hE6 : Ext w0 w4 := hE.ext hE5
  have hV4 := hV.ext hE5
  generalize runB 25 bechG (spreadF h ++ V) = c at *
  first | (simp (disch := first | omega | assumption | rfl | (simp only [vcS] <;> omega) | fail) only [↓ptV_l, ↓vcA, vcB, ↓vcD, vcE, ↓reduceIte, Nat.reduceEqDiff, Nat.reduceAdd, Nat.reduceMul, Nat.reduceLeDiff, Int.reduceLE, Int.reduceLT, Int.reduceEq, Int.reduceToNat, Int.reduceAdd, Int.reduceSub, Int.reduceMul, Int.reduceNeg, reduceCtorEq, Option.bind_some, Option.map_some, List.length_cons, List.length_nil, vcM, List.getElem?_toArray, List.getElem?_cons_zero, List.getElem?_cons_succ]) | skip
  have n1 := U64_neq c (constB false)
  have n2 := U64_neq c (constB true)
  have good : ∀ tl, R0 = (⟨h, V.take (V.length - 6), decide (c = constB true), 0⟩ : Read) → decide (c = constB true) = !decide (c = constB false) → W Tryd.prog (Ret fun u w' => ReadTo w0 w' R0 u) 15 5 ((8, .int .i64 a) :: (9, .slice q t.length cp) :: (12, vb) :: (15, U64 c) :: (113, .bool false) :: tl) w4 := fun tl hR hd => by
    rw [hR]
    obtain ⟨⟨q2, cp2, rfl, hcp2⟩, hm, hrd⟩ := hV4
    have hlen : lenR (.slice q2 V.length cp2) = some (.int .i64 V.length) := rfl
    have hw6 : IntKind.i64.wrap ((V.length : Int) - 6) = ((V.length - 6 : Nat) : Int) := by rw [wrap_i64 (by omega) (by omega)]; omega
    have hk : 0 ≤ ((V.length - 6 : Nat) : Int) ∧ ((V.length - 6 : Nat) : Int) ≤ (cp2 : Int) := by omega
    have hcut := Rd.cut (w := w4) (q := q2) (n := V.length) (c := cp2) (bs := V) ⟨⟨q2, cp2, rfl, hcp2⟩, hm, hrd⟩ (l := 0) (j := V.length - 6) (by omega) (by omega)
    rw [advA_0, List.drop_zero] at hcut
    have hD4 : Ext w4 w4.drew := (Keep.refl _ w4).drew
    have s3 := cutb w4 hE5 q cp rfl
    have s4 := cutb w4.drew (hE5.ext hD4) q cp rfl
    rw [hd]
    (refine W_at c15_ok ?_; refine ⟨_, rfl, ?_⟩; simp (disch := first | omega | assumption | rfl | (simp only [vcS] <;> omega) | fail) only [↓vcA, vcB, ↓reduceIte, Nat.reduceEqDiff])
    (refine W_at c15_ok ?_; refine ⟨_, rfl, ?_⟩; simp (disch := first | omega | assumption | rfl | (simp only [vcS] <;> omega) | fail) only [↓vcA, vcB, ↓reduceIte, Nat.reduceEqDiff, Option.bind_some, Option.map_some, b1, Int.toNat_natCast, hw6, hk, e1, n1, s4])
    (refine W_at c15_ok ?_; refine ⟨_, rfl, ?_⟩; simp (disch := first | omega | assumption | rfl | (simp only [vcS] <;> omega) | fail) only [↓vcA, vcB, ↓reduceIte, Nat.reduceEqDiff, Option.bind_some, Option.map_some, Ret_returned])
    exact ⟨_, rfl, hcut.ext hD4, hE6.ext hD4⟩
  have bad : ∀ tl, R0 = noRead 5 → W Tryd.prog (Ret fun u w' => ReadTo w0 w' R0 u) 15 5 ((8, .int .i64 a) :: (9, .slice q t.length cp) :: (12, vb) :: (15, U64 c) :: (113, .bool true) :: tl) w4 := fun tl hR => by
    rw [hR]
    (refine W_at c15_ok ?_; refine ⟨_, rfl, ?_⟩; simp (disch := first | omega | assumption | rfl | (simp only [vcS] <;> omega) | fail) only [↓vcA, vcB, ↓reduceIte, Nat.reduceEqDiff])
    (refine W_at c15_ok ?_; refine ⟨_, rfl, ?_⟩; simp (disch := first | omega | assumption | rfl | (simp only [vcS] <;> omega) | fail) only [↓vcA, vcB, ↓reduceIte, Nat.reduceEqDiff])
    (refine W_at c15_ok ?_; refine ⟨_, rfl, ?_⟩; simp (disch := first | omega | assumption | rfl | (simp only [vcS] <;> omega) | fail) only [↓vcA, vcB, ↓reduceIte, Nat.reduceEqDiff, Option.bind_some, Option.map_some, Ret_returned])
    exact noRead_ext hE6 5
  by_cases k1 : c = constB false
  · have d1 := decide_eq_true k1
    (refine W_at c15_ok ?_; refine ⟨_, rfl, ?_⟩; simp (disch := first | omega | assumption | rfl | (simp only [vcS] <;> omega) | fail) only [↓vcA, vcB, ↓reduceIte, Nat.reduceEqDiff, Option.bind_some, e1, n1, d1])
    exact good _ (by rw [← hr0, if_neg (fun h => h.1 k1)]) (by rw [k1]; decide)
  · have d1 := decide_eq_false k1
    by_cases k2 : c = constB true
    · have d2 := decide_eq_true k2
      (refine W_at c15_ok ?_; refine ⟨_, rfl, ?_⟩; simp (disch := first | omega | assumption | rfl | (simp only [vcS] <;> omega) | fail) only [↓vcA, vcB, ↓reduceIte, Nat.reduceEqDiff, Option.bind_some, e1, e2, n1, n2, d1, d2])
      exact good _ (by rw [← hr0, if_neg (fun h => h.2 k2)]) (by rw [k2]; decide)
    · have d2 := decide_eq_false k2
      (refine W_at c15_ok ?_; refine ⟨_, rfl, ?_⟩; simp (disch := first | omega | assumption | rfl | (simp only [vcS] <;> omega) | fail) only [↓vcA, vcB, ↓reduceIte, Nat.reduceEqDiff, Option.bind_some, e1, e2, n1, n2, d1, d2])
      exact bad _ (by rw [← hr0, if_pos ⟨k1, k2⟩])
end Go.Proofs
namespace Go.Proofs
open Go.Vc
set_option maxRecDepth 10000

/-- The letters behind the last '1'. -/
theorem rread_vals (w0 w1 : World) (t : List Int) (a : Nat) (vt : Value) (tl : Env) (ht : byt t) (htl : t.length ≤ 90) (ha : a < t.length) (h6 : 6 ≤ t.length - (a + 1)) (hE1 : Ext w0 w1) (hT : Rd w1 vt t) :
    W Tryd.prog (Ret fun u w' => ReadTo w0 w' (readV (t.take a) (valsF (t.drop (a + 1)))) u) 15 19 ((8, .int .i64 a) :: (9, vt) :: tl) w1 := by
  have hwa : IntKind.i64.wrap ((a : Int) + 1) = ((a + 1 : Nat) : Int) := wrap_i64 (by omega) (by omega)
  have hVl : (valsF (t.drop (a + 1))).length = t.length - (a + 1) := by rw [valsF, List.length_map, List.length_drop]
  have hvb := vals_b (l := t.drop (a + 1))
  (refine W_at c15_ok ?_; refine ⟨_, rfl, ?_⟩; simp (disch := first | omega | assumption | rfl | (simp only [vcS] <;> omega) | fail) only [↓vcA, vcB, ↓reduceIte, Nat.reduceEqDiff])
  (refine W_at c15_ok ?_; refine ⟨_, rfl, ?_⟩; simp (disch := first | omega | assumption | rfl | (simp only [vcS] <;> omega) | fail) only [↓vcA, vcB, ↓reduceIte, Nat.reduceEqDiff, Option.bind_some, hwa])
  have L : ∀ (k j : Nat) (wj : World) (vb : Value) (tl : Env), k + j = t.length - (a + 1) → New w1 wj vb ((valsF (t.drop (a + 1))).take j) → five ((valsF (t.drop (a + 1))).take j) →
      W Tryd.prog (Ret fun u w' => ReadTo w0 w' (readV (t.take a) (valsF (t.drop (a + 1)))) u) 15 17 ((8, .int .i64 a) :: (9, vt) :: (12, vb) :: (13, .int .i64 ((a + 1 + j : Nat) : Int)) :: tl) wj := by
    intro k
    induction k with
    | zero =>
      intro j wj vb tl hi hB h5
      have hil : ¬ (((a + 1 + j : Nat) : Int) < (t.length : Int)) := by omega
      rw [List.take_of_length_le (by omega)] at hB h5
      have hlt := (hT.ext hB.ext).len
      (refine W_at c15_ok ?_; refine ⟨_, rfl, ?_⟩; simp (disch := first | omega | assumption | rfl | (simp only [vcS] <;> omega) | fail) only [↓vcA, vcB, ↓reduceIte, Nat.reduceEqDiff, Option.bind_some, hlt, hil])
      (refine W_at c15_ok ?_; refine ⟨_, rfl, ?_⟩; simp (disch := first | omega | assumption | rfl | (simp only [vcS] <;> omega) | fail) only [↓vcA, vcB, ↓reduceIte, Nat.reduceEqDiff])
      exact rread_sum w0 wj t a _ vb vt _ _ ht (by omega) (by omega) (hE1.ext hB.ext) hB.own.rd (hT.ext hB.ext) h5 (by omega)
    | succ k ih =>
      intro j wj vb tl hi hB h5
      have hil : ((a + 1 + j : Nat) : Int) < (t.length : Int) := by omega
      have h0 : 0 ≤ ((a + 1 + j : Nat) : Int) ∧ ((a + 1 + j : Nat) : Int) < (t.length : Int) := by omega
      have hwi : IntKind.i64.wrap (((a + 1 + j : Nat) : Int) + 1) = ((a + 1 + (j + 1) : Nat) : Int) := by rw [wrap_i64 (by omega) (by omega)]; omega
      have hlt := (hT.ext hB.ext).len
      obtain ⟨b, o, c, hvt, hcell⟩ := (hT.ext hB.ext).at (i := a + 1 + j) (by omega)
      have b1 := ht t[a + 1 + j] (List.getElem_mem _)
      have hp : (valsF (t.drop (a + 1)))[j]? = some (placeF t[a + 1 + j] l32S 0) := by
        rw [valsF, List.getElem?_map, List.getElem?_drop, List.getElem?_eq_getElem (by omega)]; rfl
      have htk : (valsF (t.drop (a + 1))).take (j + 1) = (valsF (t.drop (a + 1))).take j ++ [placeF t[a + 1 + j] l32S 0] := by
        rw [List.take_add_one, hp]; rfl
      have hmem : placeF t[a + 1 + j] l32S 0 ∈ valsF (t.drop (a + 1)) := List.mem_of_getElem? hp
      have hpv := hvb _ hmem
      have hih := ih (j + 1)
      rw [htk] at hih
      have hjl : ((valsF (t.drop (a + 1))).take j).length ≤ 1000 := by rw [List.length_take]; omega
      clear htk hp
      subst hvt
      (refine W_at c15_ok ?_; refine ⟨_, rfl, ?_⟩; simp (disch := first | omega | assumption | rfl | (simp only [vcS] <;> omega) | fail) only [↓vcA, vcB, ↓reduceIte, Nat.reduceEqDiff, Option.bind_some, hlt, hil])
      (refine W_at c15_ok ?_; refine ⟨_, rfl, ?_⟩; simp (disch := first | omega | assumption | rfl | (simp only [vcS] <;> omega) | fail) only [↓vcA, vcB, ↓reduceIte, Nat.reduceEqDiff])
      (refine W_at c15_ok ?_; refine ⟨_, rfl, ?_⟩; simp (disch := first | omega | assumption | rfl | (simp only [vcS] <;> omega) | fail) only [↓vcL1, ↓vcA, vcB, ↓reduceIte, Nat.reduceEqDiff, Option.bind_some, Option.map_some, vcM, h0, hcell, Int.toNat_natCast, Nat.mul_one, l32S_is])
      generalize t[a + 1 + j] = x at *
      refine callV_ret (rplace_ok wj l32S x l32S_byt (by decide)) ?_
      rintro _ wq ⟨rfl, hw⟩
      obtain rfl : wj = wq := hw.symm
      simp (disch := first | omega | assumption | rfl | (simp only [vcS] <;> omega) | fail) only [ptS1_eq, ↓vcA, vcB, ↓reduceIte, Nat.reduceEqDiff]
      generalize placeF x l32S 0 = p at *
      by_cases hneg : p < 0
      · have hR : readV (t.take a) (valsF (t.drop (a + 1))) = noRead 3 := by
          rw [readV, if_pos (List.any_eq_true.2 ⟨p, hmem, decide_eq_true hneg⟩)]
        rw [hR]
        (refine W_at c15_ok ?_; refine ⟨_, rfl, ?_⟩; simp (disch := first | omega | assumption | rfl | (simp only [vcS] <;> omega) | fail) only [↓vcA, vcB, ↓reduceIte, Nat.reduceEqDiff, Option.bind_some, hneg])
        (refine W_at c15_ok ?_; refine ⟨_, rfl, ?_⟩; simp (disch := first | omega | assumption | rfl | (simp only [vcS] <;> omega) | fail) only [↓vcA, vcB, ↓reduceIte, Nat.reduceEqDiff])
        (refine W_at c15_ok ?_; refine ⟨_, rfl, ?_⟩; simp (disch := first | omega | assumption | rfl | (simp only [vcS] <;> omega) | fail) only [↓vcA, vcB, ↓reduceIte, Nat.reduceEqDiff])
        (refine W_at c15_ok ?_; refine ⟨_, rfl, ?_⟩; simp (disch := first | omega | assumption | rfl | (simp only [vcS] <;> omega) | fail) only [↓vcA, vcB, ↓reduceIte, Nat.reduceEqDiff, Option.bind_some, Option.map_some, Ret_returned])
        exact noRead_ext (hE1.ext hB.ext) 3
      · have w8 : IntKind.u8.wrap p = p := by rw [wrap_u8]; omega
        (refine W_at c15_ok ?_; refine ⟨_, rfl, ?_⟩; simp (disch := first | omega | assumption | rfl | (simp only [vcS] <;> omega) | fail) only [↓vcA, vcB, ↓reduceIte, Nat.reduceEqDiff, Option.bind_some, hneg])
        (refine W_at c15_ok ?_; refine ⟨_, rfl, ?_⟩; simp (disch := first | omega | assumption | rfl | (simp only [vcS] <;> omega) | fail) only [↓vcA, vcB, ↓reduceIte, Nat.reduceEqDiff])
        (refine W_at c15_ok ?_; refine ⟨_, rfl, ?_⟩; simp (disch := first | omega | assumption | rfl | (simp only [vcS] <;> omega) | fail) only [↓ptV_l, ↓vcA, vcB, ↓reduceIte, Nat.reduceEqDiff, Option.bind_some, Option.map_some, List.length_cons, List.length_nil, vcM, w8])
        refine appNL (news := [p]) hB (by simp only [List.length_cons, List.length_nil]; omega) fun v' w' n1 _ _ => ?_
        (refine W_at c15_ok ?_; refine ⟨_, rfl, ?_⟩; simp (disch := first | omega | assumption | rfl | (simp only [vcS] <;> omega) | fail) only [↓vcA, vcB, ↓reduceIte, Nat.reduceEqDiff, Option.bind_some, hwi])
        (refine W_at c15_ok ?_; refine ⟨_, rfl, ?_⟩; simp (disch := first | omega | assumption | rfl | (simp only [vcS] <;> omega) | fail) only [vcB])
        exact hih w' v' _ (by omega) n1 (five_app h5 fun y hy => by rw [List.mem_singleton.1 hy]; omega)
  exact L (t.length - (a + 1)) 0 w1 _ _ (by omega) (New.nil w1) (fun v hv => by simp at hv)
/-- Behind all its bytes. -/
theorem rread_end (w0 w1 : World) (s : List Int) (vt : Value) (i : Int) (tl : Env) (hb : byt s) (hl : s.length ≤ 90) (hs : seen s = true) (hE1 : Ext w0 w1) (hT : Rd w1 vt (s.map lwF)) :
    W Tryd.prog (Ret fun u w' => ReadTo w0 w' (fromE s) u) 15 23 ((0, .string (strOf s)) :: (6, .bool (s.any isUp)) :: (7, .bool (s.any isLo)) :: (8, .int .i64 (lastF (s.map lwF) 0)) :: (9, vt) :: (10, .int .i64 i) :: tl) w1 := by
  have hsz := str_size s
  have hpe : plainE s = (s.map lwF, !(s.any isUp) || !(s.any isLo)) := by
    rw [plainE, if_pos hs, map_same (fun c => lwF_same) s, map_same (fun c => upF_same) s]
  have htb : byt (s.map lwF) := asc_byt (asc_map (fun {x} h => lwF_b (x := x) h) (seen_asc hs))
  have htl : (s.map lwF).length = s.length := List.length_map _
  rw [fromE, if_neg (by omega), hpe]
  generalize s.any isUp = g
  generalize s.any isLo = sm
  generalize s.map lwF = t at *
  have hlb : -1 ≤ lastF t 0 ∧ lastF t 0 < t.length + 1 := by
    rcases lastF_spec t 0 with ⟨h, _⟩ | ⟨i, h1, h2, _⟩ <;> omega
  have c1 : IntKind.i64.wrap ((s.length : Int) - lastF t 0) = (s.length : Int) - lastF t 0 := wrap_i64 (by omega) (by omega)
  have bad : ∀ {ok : Bool} (tl : Env), fromP (t, ok) = noRead 3 → W Tryd.prog (Ret fun u w' => ReadTo w0 w' (fromP (t, ok)) u) 15 22 ((8, .int .i64 (lastF t 0)) :: (9, vt) :: (81, .bool true) :: tl) w1 := fun tl hR => by
    rw [hR]
    (refine W_at c15_ok ?_; refine ⟨_, rfl, ?_⟩; simp (disch := first | omega | assumption | rfl | (simp only [vcS] <;> omega) | fail) only [↓vcA, vcB, ↓reduceIte, Nat.reduceEqDiff])
    (refine W_at c15_ok ?_; refine ⟨_, rfl, ?_⟩; simp (disch := first | omega | assumption | rfl | (simp only [vcS] <;> omega) | fail) only [↓vcA, vcB, ↓reduceIte, Nat.reduceEqDiff])
    (refine W_at c15_ok ?_; refine ⟨_, rfl, ?_⟩; simp (disch := first | omega | assumption | rfl | (simp only [vcS] <;> omega) | fail) only [↓vcA, vcB, ↓reduceIte, Nat.reduceEqDiff, Option.bind_some, Option.map_some, Ret_returned])
    exact noRead_ext hE1 3
  have good : ∀ (tl : Env), ¬ lastF t 0 < 1 → ¬ (s.length : Int) - lastF t 0 < 7 → W Tryd.prog (Ret fun u w' => ReadTo w0 w' (fromP (t, true)) u) 15 22 ((8, .int .i64 (lastF t 0)) :: (9, vt) :: (81, .bool false) :: tl) w1 := fun tl a1 a2 => by
    have hP : fromP (t, true) = readV (t.take (lastF t 0).toNat) (valsF (t.drop ((lastF t 0).toNat + 1))) := by
      rw [fromP, if_neg]
      rintro (h | h | h)
      · cases h
      · exact a1 h
      · simp only at h; omega
    rw [hP]
    obtain ⟨a, ha⟩ : ∃ a : Nat, lastF t 0 = (a : Int) := ⟨(lastF t 0).toNat, by omega⟩
    rw [ha] at hlb a1 a2 ⊢
    rw [Int.toNat_natCast]
    (refine W_at c15_ok ?_; refine ⟨_, rfl, ?_⟩; simp (disch := first | omega | assumption | rfl | (simp only [vcS] <;> omega) | fail) only [↓vcA, vcB, ↓reduceIte, Nat.reduceEqDiff])
    exact rread_vals w0 w1 t a vt _ htb (by omega) (by omega) (by omega) hE1 hT
  by_cases a1 : lastF t 0 < 1
  · have hR : ∀ ok, fromP (t, ok) = noRead 3 := fun ok => by rw [fromP, if_pos (.inr (.inl a1))]
    cases g <;> cases sm
    · (refine W_at c15_ok ?_; refine ⟨_, rfl, ?_⟩; simp (disch := first | omega | assumption | rfl | (simp only [vcS] <;> omega) | fail) only [↓vcA, vcB, ↓reduceIte, Nat.reduceEqDiff, reduceCtorEq, Option.bind_some, a1])
      exact bad _ (hR _)
    · (refine W_at c15_ok ?_; refine ⟨_, rfl, ?_⟩; simp (disch := first | omega | assumption | rfl | (simp only [vcS] <;> omega) | fail) only [↓vcA, vcB, ↓reduceIte, Nat.reduceEqDiff, reduceCtorEq, Option.bind_some, a1])
      exact bad _ (hR _)
    · (refine W_at c15_ok ?_; refine ⟨_, rfl, ?_⟩; simp (disch := first | omega | assumption | rfl | (simp only [vcS] <;> omega) | fail) only [↓vcA, vcB, ↓reduceIte, Nat.reduceEqDiff, reduceCtorEq, Option.bind_some, a1])
      exact bad _ (hR _)
    · (refine W_at c15_ok ?_; refine ⟨_, rfl, ?_⟩; simp (disch := first | omega | assumption | rfl | (simp only [vcS] <;> omega) | fail) only [↓vcA, vcB, ↓reduceIte, Nat.reduceEqDiff, reduceCtorEq, Option.bind_some])
      exact bad _ (hR _)
  by_cases a2 : (s.length : Int) - lastF t 0 < 7
  · have hR : ∀ ok, fromP (t, ok) = noRead 3 := fun ok => by rw [fromP, if_pos (.inr (.inr (by simp only; omega)))]
    cases g <;> cases sm
    · (refine W_at c15_ok ?_; refine ⟨_, rfl, ?_⟩; simp (disch := first | omega | assumption | rfl | (simp only [vcS] <;> omega) | fail) only [↓vcA, vcB, ↓reduceIte, Nat.reduceEqDiff, reduceCtorEq, Option.bind_some, a1, hsz, c1, a2])
      exact bad _ (hR _)
    · (refine W_at c15_ok ?_; refine ⟨_, rfl, ?_⟩; simp (disch := first | omega | assumption | rfl | (simp only [vcS] <;> omega) | fail) only [↓vcA, vcB, ↓reduceIte, Nat.reduceEqDiff, reduceCtorEq, Option.bind_some, a1, hsz, c1, a2])
      exact bad _ (hR _)
    · (refine W_at c15_ok ?_; refine ⟨_, rfl, ?_⟩; simp (disch := first | omega | assumption | rfl | (simp only [vcS] <;> omega) | fail) only [↓vcA, vcB, ↓reduceIte, Nat.reduceEqDiff, reduceCtorEq, Option.bind_some, a1, hsz, c1, a2])
      exact bad _ (hR _)
    · (refine W_at c15_ok ?_; refine ⟨_, rfl, ?_⟩; simp (disch := first | omega | assumption | rfl | (simp only [vcS] <;> omega) | fail) only [↓vcA, vcB, ↓reduceIte, Nat.reduceEqDiff, reduceCtorEq, Option.bind_some])
      exact bad _ (hR _)
  cases g <;> cases sm
  · (refine W_at c15_ok ?_; refine ⟨_, rfl, ?_⟩; simp (disch := first | omega | assumption | rfl | (simp only [vcS] <;> omega) | fail) only [↓vcA, vcB, ↓reduceIte, Nat.reduceEqDiff, reduceCtorEq, Option.bind_some, a1, hsz, c1, a2])
    exact good _ a1 a2
  · (refine W_at c15_ok ?_; refine ⟨_, rfl, ?_⟩; simp (disch := first | omega | assumption | rfl | (simp only [vcS] <;> omega) | fail) only [↓vcA, vcB, ↓reduceIte, Nat.reduceEqDiff, reduceCtorEq, Option.bind_some, a1, hsz, c1, a2])
    exact good _ a1 a2
  · (refine W_at c15_ok ?_; refine ⟨_, rfl, ?_⟩; simp (disch := first | omega | assumption | rfl | (simp only [vcS] <;> omega) | fail) only [↓vcA, vcB, ↓reduceIte, Nat.reduceEqDiff, reduceCtorEq, Option.bind_some, a1, hsz, c1, a2])
    exact good _ a1 a2
  · (refine W_at c15_ok ?_; refine ⟨_, rfl, ?_⟩; simp (disch := first | omega | assumption | rfl | (simp only [vcS] <;> omega) | fail) only [↓vcA, vcB, ↓reduceIte, Nat.reduceEqDiff, reduceCtorEq, Option.bind_some])
    exact bad _ (by rw [fromP, if_pos (.inl rfl)])
end Go.Proofs
namespace Go.Proofs
open Go.Vc
set_option maxRecDepth 10000

theorem seen_take {s : List Int} {i : Nat} (h : i < s.length) : seen (s.take (i + 1)) = (seen (s.take i) && see s[i]) := by
  rw [List.take_succ_eq_append_getElem h, seen, seen, List.all_append]; simp [see]
theorem any_take {s : List Int} {p : Int → Bool} {i : Nat} (h : i < s.length) : (s.take (i + 1)).any p = ((s.take i).any p || p s[i]) := by
  rw [List.take_succ_eq_append_getElem h, List.any_append]; simp
set_option maxHeartbeats 2000000 in
theorem rfrom_ok (w : World) (s : List Int) (hb : byt s) (hm : s.length ≤ maxLen) :
    Calls Tryd.prog 15 #[.string (strOf s)] w (Ret fun u w' => ReadTo w w' (fromE s) u) := by
  refine calls_of_cfg c15_ok (Nat.le_of_ble_eq_true rfl) ?_
  simp only [argE_nil, argE_cons, Nat.zero_add]
  have hsz := str_size s
  (refine W_at c15_ok ?_; refine ⟨_, rfl, ?_⟩; simp (disch := first | omega | assumption | rfl | (simp only [vcS] <;> omega) | fail) only [↓vcA, vcB, ↓reduceIte, reduceCtorEq])
  by_cases h90 : 90 < s.length
  · have k1 : (90 : Int) < (s.length : Int) := by omega
    rw [fromE, if_pos h90]
    (refine W_at c15_ok ?_; refine ⟨_, rfl, ?_⟩; simp (disch := first | omega | assumption | rfl | (simp only [vcS] <;> omega) | fail) only [↓vcA, vcB, ↓reduceIte, reduceCtorEq, Option.bind_some, hsz, k1])
    (refine W_at c15_ok ?_; refine ⟨_, rfl, ?_⟩; simp (disch := first | omega | assumption | rfl | (simp only [vcS] <;> omega) | fail) only [↓vcA, vcB, ↓reduceIte, reduceCtorEq])
    (refine W_at c15_ok ?_; refine ⟨_, rfl, ?_⟩; simp (disch := first | omega | assumption | rfl | (simp only [vcS] <;> omega) | fail) only [↓vcA, vcB, ↓reduceIte, Nat.reduceEqDiff])
    (refine W_at c15_ok ?_; refine ⟨_, rfl, ?_⟩; simp (disch := first | omega | assumption | rfl | (simp only [vcS] <;> omega) | fail) only [↓vcA, vcB, ↓reduceIte, Nat.reduceEqDiff, Option.bind_some, Option.map_some, Ret_returned])
    exact noRead_to w 2
  have k1 : ¬ (90 : Int) < (s.length : Int) := by omega
  (refine W_at c15_ok ?_; refine ⟨_, rfl, ?_⟩; simp (disch := first | omega | assumption | rfl | (simp only [vcS] <;> omega) | fail) only [↓vcA, vcB, ↓reduceIte, reduceCtorEq, Option.bind_some, hsz, k1])
  (refine W_at c15_ok ?_; refine ⟨_, rfl, ?_⟩; simp (disch := first | omega | assumption | rfl | (simp only [vcS] <;> omega) | fail) only [↓vcA, vcB, ↓reduceIte, reduceCtorEq])
  (refine W_at c15_ok ?_; refine ⟨_, rfl, ?_⟩; simp (disch := first | omega | assumption | rfl | (simp only [vcS] <;> omega) | fail) only [↓vcA, vcB, ↓reduceIte, reduceCtorEq])
  (refine W_at c15_ok ?_; refine ⟨_, rfl, ?_⟩; simp (disch := first | omega | assumption | rfl | (simp only [vcS] <;> omega) | fail) only [↓vcA, vcB, ↓reduceIte, Nat.reduceEqDiff, reduceCtorEq])
  (refine W_at c15_ok ?_; refine ⟨_, rfl, ?_⟩; simp (disch := first | omega | assumption | rfl | (simp only [vcS] <;> omega) | fail) only [↓vcA, vcB, ↓reduceIte, Nat.reduceEqDiff, Int.reduceNeg, reduceCtorEq])
  (refine W_at c15_ok ?_; refine ⟨_, rfl, ?_⟩; simp (disch := first | omega | assumption | rfl | (simp only [vcS] <;> omega) | fail) only [↓vcA, vcB, ↓reduceIte, Nat.reduceEqDiff, Int.reduceNeg, reduceCtorEq])
  (refine W_at c15_ok ?_; refine ⟨_, rfl, ?_⟩; simp (disch := first | omega | assumption | rfl | (simp only [vcS] <;> omega) | fail) only [↓vcA, vcB, ↓reduceIte, Nat.reduceEqDiff, Int.reduceNeg, reduceCtorEq])
  have L : ∀ (k i : Nat) (wj : World) (vt : Value) (tl : Env), k + i = s.length → seen (s.take i) = true → New w wj vt ((s.take i).map lwF) →
      W Tryd.prog (Ret fun u w' => ReadTo w w' (fromE s) u) 15 41 ((0, .string (strOf s)) :: (6, .bool ((s.take i).any isUp)) :: (7, .bool ((s.take i).any isLo)) :: (8, .int .i64 (lastF ((s.take i).map lwF) 0)) :: (9, vt) :: (10, .int .i64 (i : Int)) :: tl) wj := by
    intro k
    induction k with
    | zero =>
      intro i wj vt tl hi hs hB
      have hil : ¬ ((i : Int) < (s.length : Int)) := by omega
      rw [List.take_of_length_le (by omega)] at hs hB ⊢
      (refine W_at c15_ok ?_; refine ⟨_, rfl, ?_⟩; simp (disch := first | omega | assumption | rfl | (simp only [vcS] <;> omega) | fail) only [↓vcA, vcB, ↓reduceIte, Nat.reduceEqDiff, reduceCtorEq, Option.bind_some, hsz, hil])
      (refine W_at c15_ok ?_; refine ⟨_, rfl, ?_⟩; simp (disch := first | omega | assumption | rfl | (simp only [vcS] <;> omega) | fail) only [↓vcA, vcB, ↓reduceIte, Nat.reduceEqDiff, reduceCtorEq])
      exact rread_end w wj s vt _ _ hb (by omega) hs hB.ext hB.own.rd
    | succ k ih =>
      intro i wj vt tl hi hs hB
      have hil : (i : Int) < (s.length : Int) := by omega
      have h0 : 0 ≤ (i : Int) := by omega
      have hwi : IntKind.i64.wrap ((i : Int) + 1) = ((i + 1 : Nat) : Int) := wrap_i64 (by omega) (by omega)
      have g1 := str_get (bs := s) (i := i) (by omega)
      have hxb := hb s[i] (List.getElem_mem _)
      have u1 := u8i hxb
      have hxm : s[i] ∈ s := List.getElem_mem _
      have hih := ih (i + 1)
      have hti : ((s.take i).map lwF).length = i := by rw [List.length_map, List.length_take]; omega
      have hmt : (s.take (i + 1)).map lwF = (s.take i).map lwF ++ [lwF s[i]] := by rw [List.take_succ_eq_append_getElem (by omega), List.map_append]; rfl
      rw [seen_take (by omega), any_take (by omega), any_take (by omega), hmt, hs, lastF_app, hti] at hih
      have hbad : see s[i] = false → fromE s = noRead 3 := fun h => by
        have : seen s = false := by
          cases hss : seen s with
          | false => rfl
          | true =>
            have := List.all_eq_true.1 hss s[i] hxm
            unfold see at h; rw [h] at this; cases this
        rw [fromE, if_neg h90, plainE, this]
        rfl
      have hout : see s[i] = false → ∀ (g sm : Bool) (l : Int) (x : Int) tl, W Tryd.prog (Ret fun u w' => ReadTo w w' (fromE s) u) 15 37 ((0, .string (strOf s)) :: (6, .bool g) :: (7, .bool sm) :: (8, .int .i64 l) :: (9, vt) :: (10, .int .i64 (i : Int)) :: (11, .int .u8 x) :: (33, .bool true) :: tl) wj := fun h g sm l x tl => by
        rw [hbad h]
        (refine W_at c15_ok ?_; refine ⟨_, rfl, ?_⟩; simp (disch := first | omega | assumption | rfl | (simp only [vcS] <;> omega) | fail) only [↓vcA, vcB, ↓reduceIte, Nat.reduceEqDiff, reduceCtorEq])
        (refine W_at c15_ok ?_; refine ⟨_, rfl, ?_⟩; simp (disch := first | omega | assumption | rfl | (simp only [vcS] <;> omega) | fail) only [↓vcA, vcB, ↓reduceIte, Nat.reduceEqDiff])
        (refine W_at c15_ok ?_; refine ⟨_, rfl, ?_⟩; simp (disch := first | omega | assumption | rfl | (simp only [vcS] <;> omega) | fail) only [↓vcA, vcB, ↓reduceIte, Nat.reduceEqDiff, Option.bind_some, Option.map_some, Ret_returned])
        exact noRead_ext hB.ext 3
      clear hbad hxm hmt
      generalize (s.take i).any isUp = g at *
      generalize (s.take i).any isLo = sm at *
      generalize lastF ((s.take i).map lwF) 0 = l at *
      generalize s[i] = x at *
      generalize (s.take i).map lwF = t at *
      -- the byte is appended
      have s29 : ∀ (g2 sm2 : Bool) (c : Int) (tl : Env), see x = true → c = lwF x → g2 = (g || isUp x) → sm2 = (sm || isLo x) →
          W Tryd.prog (Ret fun u w' => ReadTo w w' (fromE s) u) 15 29 ((0, .string (strOf s)) :: (6, .bool g2) :: (7, .bool sm2) :: (8, .int .i64 l) :: (9, vt) :: (10, .int .i64 (i : Int)) :: (11, .int .u8 c) :: tl) wj := fun g2 sm2 c tl hse hc hg hsm => by
        subst hc
        (refine W_at c15_ok ?_; refine ⟨_, rfl, ?_⟩; simp (disch := first | omega | assumption | rfl | (simp only [vcS] <;> omega) | fail) only [↓ptV_l, ↓vcA, vcB, ↓reduceIte, Nat.reduceEqDiff, reduceCtorEq, Option.bind_some, Option.map_some, List.length_cons, List.length_nil, vcM])
        refine appNL (news := [lwF x]) hB (by rw [hti, List.length_cons, List.length_nil]; omega) fun v' w' n1 _ _ => ?_
        first | (simp (disch := first | omega | assumption | rfl | (simp only [vcS] <;> omega) | fail) only [↓ptV_l, ↓vcA, vcB, ↓vcD, vcE, ↓reduceIte, Nat.reduceEqDiff, Nat.reduceAdd, Nat.reduceMul, Nat.reduceLeDiff, Int.reduceLE, Int.reduceLT, Int.reduceEq, Int.reduceToNat, Int.reduceAdd, Int.reduceSub, Int.reduceMul, Int.reduceNeg, reduceCtorEq, Option.bind_some, Option.map_some, List.length_cons, List.length_nil, vcM, List.getElem?_toArray, List.getElem?_cons_zero, List.getElem?_cons_succ]) | skip
        by_cases h49 : lwF x = 49
        · rw [if_pos h49, Nat.zero_add] at hih
          (refine W_at c15_ok ?_; refine ⟨_, rfl, ?_⟩; simp (disch := first | omega | assumption | rfl | (simp only [vcS] <;> omega) | fail) only [↓vcA, vcB, ↓reduceIte, Nat.reduceEqDiff, reduceCtorEq, Option.bind_some, h49])
          (refine W_at c15_ok ?_; refine ⟨_, rfl, ?_⟩; simp (disch := first | omega | assumption | rfl | (simp only [vcS] <;> omega) | fail) only [↓vcA, vcB, ↓reduceIte, Nat.reduceEqDiff, reduceCtorEq])
          (refine W_at c15_ok ?_; refine ⟨_, rfl, ?_⟩; simp (disch := first | omega | assumption | rfl | (simp only [vcS] <;> omega) | fail) only [↓vcA, vcB, ↓reduceIte, Nat.reduceEqDiff, reduceCtorEq])
          (refine W_at c15_ok ?_; refine ⟨_, rfl, ?_⟩; simp (disch := first | omega | assumption | rfl | (simp only [vcS] <;> omega) | fail) only [↓vcA, vcB, ↓reduceIte, Nat.reduceEqDiff, reduceCtorEq, Option.bind_some, hwi])
          (refine W_at c15_ok ?_; refine ⟨_, rfl, ?_⟩; simp (disch := first | omega | assumption | rfl | (simp only [vcS] <;> omega) | fail) only [vcB])
          have := hih w' v' [] (by omega) (by rw [hse]; rfl) n1
          rw [← hg, ← hsm] at this
          exact this
        · rw [if_neg h49] at hih
          (refine W_at c15_ok ?_; refine ⟨_, rfl, ?_⟩; simp (disch := first | omega | assumption | rfl | (simp only [vcS] <;> omega) | fail) only [↓vcA, vcB, ↓reduceIte, Nat.reduceEqDiff, reduceCtorEq, Option.bind_some, h49])
          (refine W_at c15_ok ?_; refine ⟨_, rfl, ?_⟩; simp (disch := first | omega | assumption | rfl | (simp only [vcS] <;> omega) | fail) only [↓vcA, vcB, ↓reduceIte, Nat.reduceEqDiff, reduceCtorEq])
          (refine W_at c15_ok ?_; refine ⟨_, rfl, ?_⟩; simp (disch := first | omega | assumption | rfl | (simp only [vcS] <;> omega) | fail) only [↓vcA, vcB, ↓reduceIte, Nat.reduceEqDiff, reduceCtorEq, Option.bind_some, hwi])
          (refine W_at c15_ok ?_; refine ⟨_, rfl, ?_⟩; simp (disch := first | omega | assumption | rfl | (simp only [vcS] <;> omega) | fail) only [vcB])
          have := hih w' v' [] (by omega) (by rw [hse]; rfl) n1
          rw [← hg, ← hsm] at this
          exact this
      clear hih ih
      have s32 : ∀ (g2 sm2 : Bool) (tl : Env), see x = true → g2 = (g || isUp x) → sm2 = (sm || isLo x) →
          W Tryd.prog (Ret fun u w' => ReadTo w w' (fromE s) u) 15 32 ((0, .string (strOf s)) :: (6, .bool g2) :: (7, .bool sm2) :: (8, .int .i64 l) :: (9, vt) :: (10, .int .i64 (i : Int)) :: (11, .int .u8 x) :: tl) wj := fun g2 sm2 tl hse hg hsm => by
        by_cases x3 : 65 ≤ x
        · by_cases x4 : x ≤ 90
          · have w8 : IntKind.u8.wrap (x + 32) = x + 32 := by rw [wrap_u8]; omega
            (refine W_at c15_ok ?_; refine ⟨_, rfl, ?_⟩; simp (disch := first | omega | assumption | rfl | (simp only [vcS] <;> omega) | fail) only [↓vcA, vcB, ↓reduceIte, Nat.reduceEqDiff, reduceCtorEq, Option.bind_some, x3, x4])
            (refine W_at c15_ok ?_; refine ⟨_, rfl, ?_⟩; simp (disch := first | omega | assumption | rfl | (simp only [vcS] <;> omega) | fail) only [↓vcA, vcB, ↓reduceIte, Nat.reduceEqDiff, reduceCtorEq])
            (refine W_at c15_ok ?_; refine ⟨_, rfl, ?_⟩; simp (disch := first | omega | assumption | rfl | (simp only [vcS] <;> omega) | fail) only [↓vcA, vcB, ↓reduceIte, Nat.reduceEqDiff, reduceCtorEq, Option.bind_some, w8])
            exact s29 g2 sm2 (x + 32) _ hse (by rw [lwF, if_pos ⟨x3, x4⟩]) hg hsm
          · (refine W_at c15_ok ?_; refine ⟨_, rfl, ?_⟩; simp (disch := first | omega | assumption | rfl | (simp only [vcS] <;> omega) | fail) only [↓vcA, vcB, ↓reduceIte, Nat.reduceEqDiff, reduceCtorEq, Option.bind_some, x3, x4])
            (refine W_at c15_ok ?_; refine ⟨_, rfl, ?_⟩; simp (disch := first | omega | assumption | rfl | (simp only [vcS] <;> omega) | fail) only [↓vcA, vcB, ↓reduceIte, Nat.reduceEqDiff, reduceCtorEq])
            exact s29 g2 sm2 x _ hse (by rw [lwF, if_neg (fun h => x4 h.2)]) hg hsm
        · (refine W_at c15_ok ?_; refine ⟨_, rfl, ?_⟩; simp (disch := first | omega | assumption | rfl | (simp only [vcS] <;> omega) | fail) only [↓vcA, vcB, ↓reduceIte, Nat.reduceEqDiff, reduceCtorEq, Option.bind_some, x3])
          (refine W_at c15_ok ?_; refine ⟨_, rfl, ?_⟩; simp (disch := first | omega | assumption | rfl | (simp only [vcS] <;> omega) | fail) only [↓vcA, vcB, ↓reduceIte, Nat.reduceEqDiff, reduceCtorEq])
          exact s29 g2 sm2 x _ hse (by rw [lwF, if_neg (fun h => x3 h.1)]) hg hsm
      clear s29
      have s33 : ∀ (g2 : Bool) (tl : Env), see x = true → g2 = (g || isUp x) →
          W Tryd.prog (Ret fun u w' => ReadTo w w' (fromE s) u) 15 33 ((0, .string (strOf s)) :: (6, .bool g2) :: (7, .bool sm) :: (8, .int .i64 l) :: (9, vt) :: (10, .int .i64 (i : Int)) :: (11, .int .u8 x) :: tl) wj := fun g2 tl hse hg => by
        cases sm with
        | true =>
          (refine W_at c15_ok ?_; refine ⟨_, rfl, ?_⟩; simp (disch := first | omega | assumption | rfl | (simp only [vcS] <;> omega) | fail) only [↓vcA, vcB, ↓reduceIte, Nat.reduceEqDiff, reduceCtorEq, Option.bind_some])
          exact s32 g2 true _ hse hg rfl
        | false =>
          by_cases x3 : 97 ≤ x
          · by_cases x4 : x ≤ 122
            · (refine W_at c15_ok ?_; refine ⟨_, rfl, ?_⟩; simp (disch := first | omega | assumption | rfl | (simp only [vcS] <;> omega) | fail) only [↓vcA, vcB, ↓reduceIte, Nat.reduceEqDiff, reduceCtorEq, Option.bind_some, x3, x4])
              exact s32 g2 true _ hse hg (by simp [isLo]; omega)
            · (refine W_at c15_ok ?_; refine ⟨_, rfl, ?_⟩; simp (disch := first | omega | assumption | rfl | (simp only [vcS] <;> omega) | fail) only [↓vcA, vcB, ↓reduceIte, Nat.reduceEqDiff, reduceCtorEq, Option.bind_some, x3, x4])
              exact s32 g2 false _ hse hg (by simp [isLo]; omega)
          · (refine W_at c15_ok ?_; refine ⟨_, rfl, ?_⟩; simp (disch := first | omega | assumption | rfl | (simp only [vcS] <;> omega) | fail) only [↓vcA, vcB, ↓reduceIte, Nat.reduceEqDiff, reduceCtorEq, Option.bind_some, x3])
            exact s32 g2 false _ hse hg (by simp [isLo]; omega)
      clear s32
      (refine W_at c15_ok ?_; refine ⟨_, rfl, ?_⟩; simp (disch := first | omega | assumption | rfl | (simp only [vcS] <;> omega) | fail) only [↓vcA, vcB, ↓reduceIte, Nat.reduceEqDiff, reduceCtorEq, Option.bind_some, hsz, hil])
      (refine W_at c15_ok ?_; refine ⟨_, rfl, ?_⟩; simp (disch := first | omega | assumption | rfl | (simp only [vcS] <;> omega) | fail) only [↓vcA, vcB, ↓reduceIte, Nat.reduceEqDiff, reduceCtorEq])
      (refine W_at c15_ok ?_; refine ⟨_, rfl, ?_⟩; simp (disch := first | omega | assumption | rfl | (simp only [vcS] <;> omega) | fail) only [↓vcA, vcB, ↓reduceIte, Nat.reduceEqDiff, reduceCtorEq, Option.bind_some, Option.map_some, h0, Int.toNat_natCast, g1, u1])
      by_cases x1 : x < 33
      · (refine W_at c15_ok ?_; refine ⟨_, rfl, ?_⟩; simp (disch := first | omega | assumption | rfl | (simp only [vcS] <;> omega) | fail) only [↓vcA, vcB, ↓reduceIte, Nat.reduceEqDiff, reduceCtorEq, Option.bind_some, x1])
        exact hout (by simp [see]; omega) _ _ _ _ _
      by_cases x2 : 126 < x
      · (refine W_at c15_ok ?_; refine ⟨_, rfl, ?_⟩; simp (disch := first | omega | assumption | rfl | (simp only [vcS] <;> omega) | fail) only [↓vcA, vcB, ↓reduceIte, Nat.reduceEqDiff, reduceCtorEq, Option.bind_some, x1, x2])
        exact hout (by simp [see]; omega) _ _ _ _ _
      have hse : see x = true := by simp [see]; omega
      (refine W_at c15_ok ?_; refine ⟨_, rfl, ?_⟩; simp (disch := first | omega | assumption | rfl | (simp only [vcS] <;> omega) | fail) only [↓vcA, vcB, ↓reduceIte, Nat.reduceEqDiff, reduceCtorEq, Option.bind_some, x1, x2])
      (refine W_at c15_ok ?_; refine ⟨_, rfl, ?_⟩; simp (disch := first | omega | assumption | rfl | (simp only [vcS] <;> omega) | fail) only [↓vcA, vcB, ↓reduceIte, Nat.reduceEqDiff, reduceCtorEq])
      cases g with
      | true =>
        (refine W_at c15_ok ?_; refine ⟨_, rfl, ?_⟩; simp (disch := first | omega | assumption | rfl | (simp only [vcS] <;> omega) | fail) only [↓vcA, vcB, ↓reduceIte, Nat.reduceEqDiff, reduceCtorEq, Option.bind_some])
        exact s33 true _ hse rfl
      | false =>
        by_cases x3 : 65 ≤ x
        · by_cases x4 : x ≤ 90
          · (refine W_at c15_ok ?_; refine ⟨_, rfl, ?_⟩; simp (disch := first | omega | assumption | rfl | (simp only [vcS] <;> omega) | fail) only [↓vcA, vcB, ↓reduceIte, Nat.reduceEqDiff, reduceCtorEq, Option.bind_some, x3, x4])
            exact s33 true _ hse (by simp [isUp]; omega)
          · (refine W_at c15_ok ?_; refine ⟨_, rfl, ?_⟩; simp (disch := first | omega | assumption | rfl | (simp only [vcS] <;> omega) | fail) only [↓vcA, vcB, ↓reduceIte, Nat.reduceEqDiff, reduceCtorEq, Option.bind_some, x3, x4])
            exact s33 false _ hse (by simp [isUp]; omega)
        · (refine W_at c15_ok ?_; refine ⟨_, rfl, ?_⟩; simp (disch := first | omega | assumption | rfl | (simp only [vcS] <;> omega) | fail) only [↓vcA, vcB, ↓reduceIte, Nat.reduceEqDiff, reduceCtorEq, Option.bind_some, x3])
          exact s33 false _ hse (by simp [isUp]; omega)
  exact L s.length 0 w _ _ (by omega) rfl (New.nil w)
end Go.Proofs
namespace Go.Proofs
open Go.Vc
set_option maxRecDepth 10000

set_option maxHeartbeats 1000000 in
theorem rfromSeg_ok (w : World) (h s : List Int) (hb : byt h) (hsb : byt s) (hsm : s.length ≤ maxLen) :
    Calls Tryd.prog 17 #[.string (strOf h), .string (strOf s)] w (Ret fun u w' => WitTo w w' (witOf (fromE s) h) u) := by
  refine calls_of_cfg c17_ok (Nat.le_of_ble_eq_true rfl) ?_
  simp only [argE_nil, argE_cons, Nat.reduceAdd, Nat.zero_add]
  (refine W_at c17_ok ?_; refine ⟨_, rfl, ?_⟩; simp (disch := first | omega | assumption | rfl | (simp only [vcS] <;> omega) | fail) only [↓vcA, vcB, ↓reduceIte, Nat.reduceEqDiff, reduceCtorEq])
  (refine W_at c17_ok ?_; refine ⟨_, rfl, ?_⟩; simp (disch := first | omega | assumption | rfl | (simp only [vcS] <;> omega) | fail) only [↓vcL1, ↓vcA, vcB, ↓reduceIte, reduceCtorEq, Option.bind_some, Option.map_some])
  refine callV_ret (rfrom_ok w s hsb hsm) ?_
  rintro _ w1 ⟨y, rfl, hy, hE1⟩
  obtain ⟨hrb, hr5, hrl⟩ := fromE_fine (s := s)
  generalize fromE s = r at *
  obtain ⟨rh, rd, rm, re⟩ := r
  simp only at hy hrb hr5 hrl
  have er : readR ⟨rh, rd, rm, re⟩ y = .tuple #[.string (strOf rh), y, .bool rm, .int .i64 re] := rfl
  rw [er]
  simp (disch := first | omega | assumption | rfl | (simp only [vcS] <;> omega) | fail) only [ptS1_eq, ↓vcA, vcB, ↓reduceIte, Nat.reduceEqDiff, reduceCtorEq, Option.bind_some, List.getElem?_toArray, List.getElem?_cons_zero, List.getElem?_cons_succ]
  by_cases he : ¬ re = 0
  · rw [witOf, if_pos he]
    (refine W_at c17_ok ?_; refine ⟨_, rfl, ?_⟩; simp (disch := first | omega | assumption | rfl | (simp only [vcS] <;> omega) | fail) only [↓vcA, vcB, ↓reduceIte, Nat.reduceEqDiff, reduceCtorEq, Option.bind_some, he])
    (refine W_at c17_ok ?_; refine ⟨_, rfl, ?_⟩; simp (disch := first | omega | assumption | rfl | (simp only [vcS] <;> omega) | fail) only [↓vcA, vcB, ↓reduceIte, Nat.reduceEqDiff, reduceCtorEq])
    (refine W_at c17_ok ?_; refine ⟨_, rfl, ?_⟩; simp (disch := first | omega | assumption | rfl | (simp only [vcS] <;> omega) | fail) only [↓vcA, vcB, ↓reduceIte, Nat.reduceEqDiff, reduceCtorEq])
    (refine W_at c17_ok ?_; refine ⟨_, rfl, ?_⟩; simp (disch := first | omega | assumption | rfl | (simp only [vcS] <;> omega) | fail) only [↓vcA, vcB, ↓reduceIte, Nat.reduceEqDiff, Option.bind_some, Option.map_some, Ret_returned])
    exact noWit_ext hE1 re
  replace he := Decidable.not_not.1 he
  subst he
  (refine W_at c17_ok ?_; refine ⟨_, rfl, ?_⟩; simp (disch := first | omega | assumption | rfl | (simp only [vcS] <;> omega) | fail) only [↓vcA, vcB, ↓reduceIte, Nat.reduceEqDiff, reduceCtorEq, Option.bind_some])
  (refine W_at c17_ok ?_; refine ⟨_, rfl, ?_⟩; simp (disch := first | omega | assumption | rfl | (simp only [vcS] <;> omega) | fail) only [↓vcA, vcB, ↓reduceIte, Nat.reduceEqDiff, reduceCtorEq])
  have hdd : decide (strOf rh = strOf h) = decide (rh = h) := decide_eq_decide.2 (strOf_inj hrb hb)
  by_cases hh : ¬ rh = h
  · have d1 := decide_eq_false hh
    rw [d1] at hdd
    rw [witOf, if_neg (by simp), if_pos hh]
    (refine W_at c17_ok ?_; refine ⟨_, rfl, ?_⟩; simp (disch := first | omega | assumption | rfl | (simp only [vcS] <;> omega) | fail) only [↓vcA, vcB, ↓reduceIte, Nat.reduceEqDiff, reduceCtorEq, Option.bind_some, hdd])
    (refine W_at c17_ok ?_; refine ⟨_, rfl, ?_⟩; simp (disch := first | omega | assumption | rfl | (simp only [vcS] <;> omega) | fail) only [↓vcA, vcB, ↓reduceIte, Nat.reduceEqDiff])
    (refine W_at c17_ok ?_; refine ⟨_, rfl, ?_⟩; simp (disch := first | omega | assumption | rfl | (simp only [vcS] <;> omega) | fail) only [↓vcA, vcB, ↓reduceIte, Nat.reduceEqDiff])
    (refine W_at c17_ok ?_; refine ⟨_, rfl, ?_⟩; simp (disch := first | omega | assumption | rfl | (simp only [vcS] <;> omega) | fail) only [↓vcA, vcB, ↓reduceIte, Nat.reduceEqDiff, Option.bind_some, Option.map_some, Ret_returned])
    exact noWit_ext hE1 7
  replace hh := Decidable.not_not.1 hh
  have d1 := decide_eq_true hh
  rw [d1] at hdd
  rw [witOf, if_neg (by simp), if_neg (by simpa using hh)]
  simp only
  (refine W_at c17_ok ?_; refine ⟨_, rfl, ?_⟩; simp (disch := first | omega | assumption | rfl | (simp only [vcS] <;> omega) | fail) only [↓vcA, vcB, ↓reduceIte, Nat.reduceEqDiff, reduceCtorEq, Option.bind_some, hdd])
  (refine W_at c17_ok ?_; refine ⟨_, rfl, ?_⟩; simp (disch := first | omega | assumption | rfl | (simp only [vcS] <;> omega) | fail) only [↓vcA, vcB, ↓reduceIte, Nat.reduceEqDiff])
  have hlen := hy.len
  cases rd with
  | nil =>
    have hlen : lenR y = some (.int .i64 0) := hlen
    (refine W_at c17_ok ?_; refine ⟨_, rfl, ?_⟩; simp (disch := first | omega | assumption | rfl | (simp only [vcS] <;> omega) | fail) only [↓vcA, vcB, ↓reduceIte, Nat.reduceEqDiff, Option.bind_some, hlen])
    (refine W_at c17_ok ?_; refine ⟨_, rfl, ?_⟩; simp (disch := first | omega | assumption | rfl | (simp only [vcS] <;> omega) | fail) only [↓vcA, vcB, ↓reduceIte, Nat.reduceEqDiff])
    (refine W_at c17_ok ?_; refine ⟨_, rfl, ?_⟩; simp (disch := first | omega | assumption | rfl | (simp only [vcS] <;> omega) | fail) only [↓vcA, vcB, ↓reduceIte, Nat.reduceEqDiff])
    (refine W_at c17_ok ?_; refine ⟨_, rfl, ?_⟩; simp (disch := first | omega | assumption | rfl | (simp only [vcS] <;> omega) | fail) only [↓vcA, vcB, ↓reduceIte, Nat.reduceEqDiff, Option.bind_some, Option.map_some, Ret_returned])
    exact noWit_ext hE1 3
  | cons v ds =>
    have hv5 := hr5 v (by simp)
    have hds5 : five ds := fun z hz => hr5 z (by simp [hz])
    obtain ⟨b, o, c, hyv, hcell⟩ := hy.at (i := 0) (by simp)
    simp only [List.getElem_cons_zero, Nat.add_zero, List.length_cons] at hcell hyv hlen hrl
    have hyc : ds.length + 1 ≤ c := by
      obtain ⟨q', c', e, hc'⟩ := hy.is
      rw [hyv] at e
      cases e; simpa using hc'
    subst hyv
    show W Tryd.prog (Ret fun u w' => WitTo w w' (witD v ds rm) u) _ _ _ _
    have t1 : (!(true == false)) = true := rfl
    have t2 : (!(false == true)) = true := rfl
    have t3 : (!(true == true)) = false := rfl
    have t4 : (!(false == false)) = false := rfl
    have hpos : (0 : Int) < ((ds.length + 1 : Nat) : Int) := by omega
    have hnz : ¬ ((ds.length + 1 : Nat) : Int) = 0 := by omega
    have bad : ∀ u w', u = .tuple #[.int .i64 0, .slice none 0 0, .int .i64 3] → Ext w w' → (16 < v ∨ rm ≠ decide (v ≠ 0)) → WitTo w w' (witD v ds rm) u := fun u w' hu hE hc => by
      rw [hu, witD, if_pos hc]; exact noWit_ext hE 3
    by_cases h16 : 16 < v
    · (refine W_at c17_ok ?_; refine ⟨_, rfl, ?_⟩; simp (disch := first | omega | assumption | rfl | (simp only [vcS] <;> omega) | fail) only [↓vcA, vcB, ↓reduceIte, Nat.reduceEqDiff, Int.reduceLE, Option.bind_some, vcM, hlen, hnz, hpos, hcell, h16, Int.toNat_zero])
      (refine W_at c17_ok ?_; refine ⟨_, rfl, ?_⟩; simp (disch := first | omega | assumption | rfl | (simp only [vcS] <;> omega) | fail) only [↓vcA, vcB, ↓reduceIte, Nat.reduceEqDiff])
      (refine W_at c17_ok ?_; refine ⟨_, rfl, ?_⟩; simp (disch := first | omega | assumption | rfl | (simp only [vcS] <;> omega) | fail) only [↓vcA, vcB, ↓reduceIte, Nat.reduceEqDiff])
      (refine W_at c17_ok ?_; refine ⟨_, rfl, ?_⟩; simp (disch := first | omega | assumption | rfl | (simp only [vcS] <;> omega) | fail) only [↓vcA, vcB, ↓reduceIte, Nat.reduceEqDiff, Option.bind_some, Option.map_some, Ret_returned])
      exact bad _ _ rfl hE1 (.inl h16)
    by_cases hmv : rm ≠ decide (v ≠ 0)
    · by_cases hv0 : v = 0
      · have hr : rm = true := by cases rm <;> simp_all
        subst hr
        subst hv0
        have hg0 : ¬ (0 : Int) < 0 := by omega
        (refine W_at c17_ok ?_; refine ⟨_, rfl, ?_⟩; simp (disch := first | omega | assumption | rfl | (simp only [vcS] <;> omega) | fail) only [↓vcA, vcB, ↓reduceIte, Nat.reduceEqDiff, Int.reduceLE, Option.bind_some, vcM, hlen, hnz, hpos, hcell, h16, hg0, t1, Int.toNat_zero])
        (refine W_at c17_ok ?_; refine ⟨_, rfl, ?_⟩; simp (disch := first | omega | assumption | rfl | (simp only [vcS] <;> omega) | fail) only [↓vcA, vcB, ↓reduceIte, Nat.reduceEqDiff])
        (refine W_at c17_ok ?_; refine ⟨_, rfl, ?_⟩; simp (disch := first | omega | assumption | rfl | (simp only [vcS] <;> omega) | fail) only [↓vcA, vcB, ↓reduceIte, Nat.reduceEqDiff])
        (refine W_at c17_ok ?_; refine ⟨_, rfl, ?_⟩; simp (disch := first | omega | assumption | rfl | (simp only [vcS] <;> omega) | fail) only [↓vcA, vcB, ↓reduceIte, Nat.reduceEqDiff, Option.bind_some, Option.map_some, Ret_returned])
        exact bad _ _ rfl hE1 (.inr hmv)
      · have hr : rm = false := by cases rm <;> simp_all
        subst hr
        have hg0 : (0 : Int) < v := by omega
        (refine W_at c17_ok ?_; refine ⟨_, rfl, ?_⟩; simp (disch := first | omega | assumption | rfl | (simp only [vcS] <;> omega) | fail) only [↓vcA, vcB, ↓reduceIte, Nat.reduceEqDiff, Int.reduceLE, Option.bind_some, vcM, hlen, hnz, hpos, hcell, h16, hg0, t2, Int.toNat_zero])
        (refine W_at c17_ok ?_; refine ⟨_, rfl, ?_⟩; simp (disch := first | omega | assumption | rfl | (simp only [vcS] <;> omega) | fail) only [↓vcA, vcB, ↓reduceIte, Nat.reduceEqDiff])
        (refine W_at c17_ok ?_; refine ⟨_, rfl, ?_⟩; simp (disch := first | omega | assumption | rfl | (simp only [vcS] <;> omega) | fail) only [↓vcA, vcB, ↓reduceIte, Nat.reduceEqDiff])
        (refine W_at c17_ok ?_; refine ⟨_, rfl, ?_⟩; simp (disch := first | omega | assumption | rfl | (simp only [vcS] <;> omega) | fail) only [↓vcA, vcB, ↓reduceIte, Nat.reduceEqDiff, Option.bind_some, Option.map_some, Ret_returned])
        exact bad _ _ rfl hE1 (.inr hmv)
    replace hmv := Decidable.not_not.1 hmv
    have hW : witD v ds rm = (if (regE ds 5 8 false).2 ≠ 0 then noWit (regE ds 5 8 false).2 else if fitF v (regE ds 5 8 false).1.length = false then noWit 2 else ⟨v, (regE ds 5 8 false).1, 0⟩) := by
      rw [witD, if_neg]
      rintro (k | k)
      · exact h16 k
      · exact k hmv
    rw [hW]
    clear bad
    have hcut := Rd.cut (w := w1) (q := some ⟨b, o, none⟩) (n := ds.length + 1) (c := c) (bs := v :: ds) hy (l := 1) (j := ds.length + 1) (by omega) (by omega)
    rw [List.take_of_length_le (by simp)] at hcut
    simp only [List.drop_succ_cons, List.drop_zero] at hcut
    have h1c : (1 : Int) ≤ ((ds.length + 1 : Nat) : Int) := by omega
    have tail : ∀ tl, W Tryd.prog (Ret fun u w' => WitTo w w' (if (regE ds 5 8 false).2 ≠ 0 then noWit (regE ds 5 8 false).2 else if fitF v (regE ds 5 8 false).1.length = false then noWit 2 else ⟨v, (regE ds 5 8 false).1, 0⟩) u) 17 11 ((8, .slice (some ⟨b, o, none⟩) (ds.length + 1) c) :: tl) w1 := fun tl => by
      (refine W_at c17_ok ?_; refine ⟨_, rfl, ?_⟩; simp (disch := first | omega | assumption | rfl | (simp only [vcS] <;> omega) | fail) only [↓vcL1, ↓vcA, vcB, ↓reduceIte, Int.reduceLE, Int.reduceToNat, Option.bind_some, Option.map_some, h1c])
      refine callV_ret (rregroup_ok w1 _ ds 5 8 false hcut (five_byt hds5) (by omega)) ?_
      rintro _ w2 ⟨x, rfl, hN⟩
      have hE2 : Ext w w2 := hE1.ext hN.ext
      have hcell2 : cellO w2.heap[b]? o = some (.int .u8 v) := by
        obtain ⟨b', o', c', e, hc2⟩ := (hy.ext hN.ext).at (i := 0) (by simp)
        cases e
        simpa using hc2
      obtain ⟨hqb, hql⟩ := regE_fine ds 5 8 false
      generalize regE ds 5 8 false = q at *
      obtain ⟨q1, q2⟩ := q
      simp only at hqb hql hN ⊢
      have hlx := hN.own.rd.len
      simp (disch := first | omega | assumption | rfl | (simp only [vcS] <;> omega) | fail) only [ptS1_eq, ↓vcA, vcB, ↓reduceIte, Nat.reduceEqDiff, Option.bind_some, List.getElem?_toArray, List.getElem?_cons_zero, List.getElem?_cons_succ]
      by_cases hq : ¬ q2 = 0
      · rw [if_pos hq]
        (refine W_at c17_ok ?_; refine ⟨_, rfl, ?_⟩; simp (disch := first | omega | assumption | rfl | (simp only [vcS] <;> omega) | fail) only [↓vcA, vcB, ↓reduceIte, Nat.reduceEqDiff, Option.bind_some, hq])
        (refine W_at c17_ok ?_; refine ⟨_, rfl, ?_⟩; simp (disch := first | omega | assumption | rfl | (simp only [vcS] <;> omega) | fail) only [↓vcA, vcB, ↓reduceIte, Nat.reduceEqDiff])
        (refine W_at c17_ok ?_; refine ⟨_, rfl, ?_⟩; simp (disch := first | omega | assumption | rfl | (simp only [vcS] <;> omega) | fail) only [↓vcA, vcB, ↓reduceIte, Nat.reduceEqDiff])
        (refine W_at c17_ok ?_; refine ⟨_, rfl, ?_⟩; simp (disch := first | omega | assumption | rfl | (simp only [vcS] <;> omega) | fail) only [↓vcA, vcB, ↓reduceIte, Nat.reduceEqDiff, Option.bind_some, Option.map_some, Ret_returned])
        exact noWit_ext hE2 q2
      replace hq := Decidable.not_not.1 hq
      subst hq
      rw [if_neg (by simp)]
      have w64 : IntKind.i64.wrap v = v := wrap_i64 (by omega) (by omega)
      (refine W_at c17_ok ?_; refine ⟨_, rfl, ?_⟩; simp (disch := first | omega | assumption | rfl | (simp only [vcS] <;> omega) | fail) only [↓vcA, vcB, ↓reduceIte, Nat.reduceEqDiff, Option.bind_some])
      (refine W_at c17_ok ?_; refine ⟨_, rfl, ?_⟩; simp (disch := first | omega | assumption | rfl | (simp only [vcS] <;> omega) | fail) only [↓vcA, vcB, ↓reduceIte, Nat.reduceEqDiff])
      (refine W_at c17_ok ?_; refine ⟨_, rfl, ?_⟩; simp (disch := first | omega | assumption | rfl | (simp only [vcS] <;> omega) | fail) only [↓vcL1, ↓vcA, vcB, ↓reduceIte, Nat.reduceEqDiff, Int.reduceLE, Option.bind_some, Option.map_some, vcM, hpos, hcell2, hlx, w64, Int.toNat_zero])
      refine callV_ret (rfits_ok w2 v q1.length) ?_
      rintro _ wq ⟨rfl, hw⟩
      obtain rfl : w2 = wq := hw.symm
      cases hf : fitF v q1.length with
      | false =>
        rw [if_pos rfl]
        simp (disch := first | omega | assumption | rfl | (simp only [vcS] <;> omega) | fail) only [ptS1_eq, ↓vcA, vcB, ↓reduceIte, Nat.reduceEqDiff, Option.bind_some]
        (refine W_at c17_ok ?_; refine ⟨_, rfl, ?_⟩; simp (disch := first | omega | assumption | rfl | (simp only [vcS] <;> omega) | fail) only [↓vcA, vcB, ↓reduceIte, Nat.reduceEqDiff])
        (refine W_at c17_ok ?_; refine ⟨_, rfl, ?_⟩; simp (disch := first | omega | assumption | rfl | (simp only [vcS] <;> omega) | fail) only [↓vcA, vcB, ↓reduceIte, Nat.reduceEqDiff])
        (refine W_at c17_ok ?_; refine ⟨_, rfl, ?_⟩; simp (disch := first | omega | assumption | rfl | (simp only [vcS] <;> omega) | fail) only [↓vcA, vcB, ↓reduceIte, Nat.reduceEqDiff, Option.bind_some, Option.map_some, Ret_returned])
        exact noWit_ext hE2 2
      | true =>
        rw [if_neg (by decide)]
        simp (disch := first | omega | assumption | rfl | (simp only [vcS] <;> omega) | fail) only [ptS1_eq, ↓vcA, vcB, ↓reduceIte, Nat.reduceEqDiff, Option.bind_some]
        (refine W_at c17_ok ?_; refine ⟨_, rfl, ?_⟩; simp (disch := first | omega | assumption | rfl | (simp only [vcS] <;> omega) | fail) only [↓vcA, vcB, ↓reduceIte, Nat.reduceEqDiff])
        (refine W_at c17_ok ?_; refine ⟨_, rfl, ?_⟩; simp (disch := first | omega | assumption | rfl | (simp only [vcS] <;> omega) | fail) only [↓vcA, vcB, ↓reduceIte, Nat.reduceEqDiff, Int.reduceLE, Option.bind_some, vcM, hpos, hcell2, w64, Int.toNat_zero])
        (refine W_at c17_ok ?_; refine ⟨_, rfl, ?_⟩; simp (disch := first | omega | assumption | rfl | (simp only [vcS] <;> omega) | fail) only [↓vcA, vcB, ↓reduceIte, Nat.reduceEqDiff, Option.bind_some, Option.map_some, Ret_returned])
        exact ⟨x, rfl, hN.own.rd, hE2⟩
    by_cases hv0 : v = 0
    · have hr : rm = false := by rw [hmv]; simp [hv0]
      subst hr
      subst hv0
      have hg0 : ¬ (0 : Int) < 0 := by omega
      (refine W_at c17_ok ?_; refine ⟨_, rfl, ?_⟩; simp (disch := first | omega | assumption | rfl | (simp only [vcS] <;> omega) | fail) only [↓vcA, vcB, ↓reduceIte, Nat.reduceEqDiff, Int.reduceLE, Option.bind_some, vcM, hlen, hnz, hpos, hcell, h16, hg0, t4, Int.toNat_zero])
      (refine W_at c17_ok ?_; refine ⟨_, rfl, ?_⟩; simp (disch := first | omega | assumption | rfl | (simp only [vcS] <;> omega) | fail) only [↓vcA, vcB, ↓reduceIte, Nat.reduceEqDiff])
      exact tail _
    · have hr : rm = true := by rw [hmv]; simp [hv0]
      subst hr
      have hg0 : (0 : Int) < v := by omega
      (refine W_at c17_ok ?_; refine ⟨_, rfl, ?_⟩; simp (disch := first | omega | assumption | rfl | (simp only [vcS] <;> omega) | fail) only [↓vcA, vcB, ↓reduceIte, Nat.reduceEqDiff, Int.reduceLE, Option.bind_some, vcM, hlen, hnz, hpos, hcell, h16, hg0, t3, Int.toNat_zero])
      (refine W_at c17_ok ?_; refine ⟨_, rfl, ?_⟩; simp (disch := first | omega | assumption | rfl | (simp only [vcS] <;> omega) | fail) only [↓vcA, vcB, ↓reduceIte, Nat.reduceEqDiff])
      exact tail _

theorem groups_count {n : Nat} (hn : 0 < n) (P : List Int) (hP : bit P) : (groups n P).1.length * n + (groups n P).2.length = P.length := by
  have h := congrArg List.length (bits_groups hn P.length P (Nat.le_refl _) hP).1
  rw [List.length_append, bitsF_len] at h
  exact h
/-- Grouped back, as many groups. -/
theorem back_len {ds p : List Int} (h : regE ds 5 8 false = (p, 0)) (hp : byt p) : (regE p 8 5 true).1.length = ds.length := by
  rw [show regE ds 5 8 false = _ from regE_of (bs := ds) (a := 5) (b := 8) (pad := false) (by decide) (by decide)] at h
  rw [show regE p 8 5 true = _ from regE_of (bs := p) (a := 8) (b := 5) (pad := true) (by decide) (by decide)]
  have hf : Go.Proofs.fits 8 p := fun v hv => by
    have := hp v hv
    have e : (2 : Int) ^ 8 = 256 := by decide
    omega
  cases hr : regF ds 5 8 false with
  | none => rw [hr] at h; cases h
  | some x =>
    rw [hr] at h
    have hx : x = p := congrArg Prod.fst h
    subst hx
    have c1 := groups_count (n := 8) (by decide) (bitsF 5 ds) (bitsF_bit 5 ds)
    have c2 := groups_count (n := 5) (by decide) (bitsF 8 x) (bitsF_bit 8 x)
    have r2 := groups_rest (to := 5) (by decide) _ (bitsF 8 x) (Nat.le_refl _)
    rw [bitsF_len] at c1 c2
    unfold regF at hr
    split at hr
    · rw [regF, if_pos hf]
      generalize groups 8 (bitsF 5 ds) = g1 at *
      generalize groups 5 (bitsF 8 x) = g2 at *
      obtain ⟨G, R⟩ := g1
      obtain ⟨G2, R2⟩ := g2
      simp only [Bool.false_eq_true, if_false] at hr c1 c2 r2
      split at hr
      · cases hr
      · rename_i hno
        obtain rfl := Option.some.inj hr
        simp only [if_true, List.length_append, padF]
        have hR : R.length < 5 := Nat.lt_of_not_le fun h => hno (.inl h)
        split
        · rename_i h2
          subst h2
          simp only [List.length_nil] at c2 ⊢
          omega
        · rename_i h2
          have : R2.length ≠ 0 := fun h => h2 (List.eq_nil_of_length_eq_zero h)
          simp only [List.length_cons, List.length_nil]
          omega
    · cases hr
/-- What a text holds that is read. -/
theorem fromE_read {s : List Int} (h : (fromE s).e = 0) : s.length ≤ 90 ∧ okH (fromE s).h = true ∧ (fromE s).h ≠ [] ∧ s.length = (fromE s).h.length + 1 + (fromE s).d.length + 6 := by
  unfold fromE at h ⊢
  split at h
  · cases h
  · rename_i h90
    rw [if_neg h90]
    unfold fromP at h ⊢
    split at h
    · cases h
    · rename_i hno
      rw [if_neg hno]
      have hok : (plainE s).2 = true := by
        cases ho : (plainE s).2 with
        | true => rfl
        | false => exact absurd (.inl ho) hno
      have hse : seen s = true := by
        cases hs : seen s with
        | true => rfl
        | false => rw [plainE, hs] at hok; cases hok
      have ht : (plainE s).1 = s.map lwF := by rw [plainE, if_pos hse]
      rw [ht] at h hno ⊢
      have hla : ¬ lastF (s.map lwF) 0 < 1 := fun h => hno (.inr (.inl h))
      have hlb : ¬ ((s.map lwF).length : Int) - lastF (s.map lwF) 0 - 1 < 6 := fun h => hno (.inr (.inr h))
      obtain ⟨a, ha⟩ : ∃ a : Nat, lastF (s.map lwF) 0 = (a : Int) := ⟨(lastF (s.map lwF) 0).toNat, by omega⟩
      rw [ha] at hla hlb
      rw [ha, Int.toNat_natCast] at h ⊢
      have hl : (s.map lwF).length = s.length := List.length_map _
      rw [hl] at hlb
      unfold readV at h ⊢
      split at h
      · cases h
      · rename_i hn1
        rw [if_neg hn1]
        split at h
        · cases h
        · rename_i hn2
          rw [if_neg hn2]
          simp only
          have hlen1 : ((s.map lwF).take a).length = a := by rw [List.length_take]; omega
          refine ⟨by omega, ?_, ?_, ?_⟩
          · refine List.all_eq_true.2 fun x hx => ?_
            obtain ⟨y, hy, rfl⟩ := List.mem_map.1 (List.mem_of_mem_take hx)
            have := List.all_eq_true.1 hse y hy
            simp at this
            unfold lwF
            split <;> simp <;> omega
          · intro h0
            rw [h0] at hlen1
            simp at hlen1; omega
          · rw [hlen1, List.length_take, valsF, List.length_map, List.length_drop, hl]; omega
/-- An address that was read is written again, as long. -/
theorem seg_again {s hrp : List Int} (hb : byt hrp) (he : (witOf (fromE s) hrp).e = 0) :
    (segE hrp (witOf (fromE s) hrp).v (witOf (fromE s) hrp).p).2 = 0 ∧ (segE hrp (witOf (fromE s) hrp).v (witOf (fromE s) hrp).p).1.length = s.length ∧ 0 < (bechE hrp [] false).1.length ∧ byt (witOf (fromE s) hrp).p ∧ (witOf (fromE s) hrp).p.length ≤ 1000 := by
  have hr := fromE_read (s := s)
  obtain ⟨-, h5, hd90⟩ := fromE_fine (s := s)
  generalize fromE s = r at *
  obtain ⟨rh, rd, rm, re⟩ := r
  simp only at hr h5 hd90
  unfold witOf at he ⊢
  simp only at he ⊢
  split at he
  · rename_i h1; exact absurd he h1
  · rename_i h1
    rw [if_neg h1]
    split at he
    · cases he
    · rename_i h2
      rw [if_neg h2]
      replace h1 := Decidable.not_not.1 h1
      replace h2 := Decidable.not_not.1 h2
      subst h2
      obtain ⟨hl90, hok, hne, hsl⟩ := hr h1
      cases rd with
      | nil => cases he
      | cons v ds =>
        simp only at he ⊢
        have hv5 := h5 v (by simp)
        have hds5 : five ds := fun z hz => h5 z (by simp [hz])
        unfold witD at he ⊢
        split at he
        · cases he
        · rename_i h3
          rw [if_neg h3]
          split at he
          · rename_i h4; exact absurd he h4
          · rename_i h4
            rw [if_neg h4]
            replace h4 := Decidable.not_not.1 h4
            split at he
            · cases he
            · rename_i h6
              rw [if_neg h6]
              simp only
              have hv16 : ¬ 16 < v := fun h => h3 (.inl h)
              obtain ⟨hpb, hpl⟩ := regE_fine ds 5 8 false
              have hq : regE ds 5 8 false = ((regE ds 5 8 false).1, 0) := by rw [← h4]
              have hbl := back_len hq hpb
              generalize (regE ds 5 8 false).1 = p at *
              rw [List.length_cons] at hsl hd90
              have hfit : Fit rh (v :: (regE p 8 5 true).1) := ⟨hb, hne, hok, fun z hz => by
                rcases List.mem_cons.1 hz with rfl | hz
                · exact hv5
                · exact reg85_b p z hz, by rw [List.length_cons, hbl]; omega⟩
              have hE : ∀ (d : List Int) (m : Bool), Fit rh d → bechE rh d m = (bechF rh d m, 0) := fun d m hf => by
                have hl := hf.len
                rw [bechE, if_neg (by omega), if_neg]
                rintro (k | k | k)
                · exact hf.ne k
                · rw [hf.ok] at k; cases k
                · obtain ⟨z, hz, hz2⟩ := List.any_eq_true.1 k
                  have := hf.five z hz
                  simp at hz2; omega
              have hlen : (bechF rh (v :: (regE p 8 5 true).1) (decide (v ≠ 0))).length = s.length := by
                simp only [bechF, List.length_append, List.length_cons, List.length_map, sumL_len, hbl]; omega
              rw [segE, if_neg (by omega), if_neg h6, hE _ _ hfit]
              refine ⟨rfl, hlen, ?_, hpb, by omega⟩
              rw [hE [] false ⟨hb, hne, hok, fun z hz => (by cases hz), by simp only [List.length_nil]; omega⟩]
              simp only [bechF, List.length_append, List.length_cons]; omega
end Go.Proofs
namespace Go.Proofs
open Go.Vc
set_option maxRecDepth 10000

theorem reads_tail (w0 w : World) (s hrp : List Int) (tl : Env) (hE : Ext w0 w) (hb : byt s) (hl : s.length ≤ 200) (hh : byt hrp) (hhm : hrp.length ≤ maxLen) :
    W Tryd.prog (Ret fun u w' => u = .bool true ∧ Ext w0 w') 5 20 ((0, .string (strOf s)) :: (1, .string (strOf hrp)) :: tl) w := by
  have hml : maxLen = 9223372036854775807 := rfl
  have hsz := str_size s
  obtain ⟨hrb, hr5, hrl⟩ := fromE_fine (s := s)
  have hag := seg_again (s := s) (hrp := hrp) hh
  have hwp : byt (witOf (fromE s) hrp).p ∧ (witOf (fromE s) hrp).p.length ≤ 1000 := by
    unfold witOf
    split
    · exact ⟨byt_nil, by simp [noWit]⟩
    · split
      · exact ⟨byt_nil, by simp [noWit]⟩
      · split
        · exact ⟨byt_nil, by simp [noWit]⟩
        · rename_i v ds hd
          rw [hd, List.length_cons] at hrl
          unfold witD
          obtain ⟨q1, q2⟩ := regE_fine ds 5 8 false
          split
          · exact ⟨byt_nil, by simp [noWit]⟩
          · split
            · exact ⟨byt_nil, by simp [noWit]⟩
            · split
              · exact ⟨byt_nil, by simp [noWit]⟩
              · exact ⟨q1, by simp only; omega⟩
  (refine W_at c5_ok ?_; refine ⟨_, rfl, ?_⟩; simp (disch := first | omega | assumption | rfl | (simp only [vcS] <;> omega) | fail) only [↓vcL1, ↓vcA, vcB, ↓reduceIte, Option.bind_some, Option.map_some])
  refine callV_ret (from_ok w s hb (by omega)) ?_
  rintro _ w1 ⟨y1, rfl, hy1, hE1⟩
  have er : ∀ y, readR (fromE s) y = .tuple #[.string (strOf (fromE s).h), y, .bool (fromE s).m, .int .i64 (fromE s).e] := fun y => rfl
  have ew : ∀ y, witR (witOf (fromE s) hrp) y = .tuple #[.int .i64 (witOf (fromE s) hrp).v, y, .int .i64 (witOf (fromE s) hrp).e] := fun y => rfl
  rw [er]
  simp (disch := first | omega | assumption | rfl | (simp only [vcS] <;> omega) | fail) only [ptS1_eq, ↓vcA, vcB, ↓reduceIte, Nat.reduceEqDiff, reduceCtorEq, Option.bind_some, List.getElem?_toArray, List.getElem?_cons_zero, List.getElem?_cons_succ]
  (refine W_at c5_ok ?_; refine ⟨_, rfl, ?_⟩; simp (disch := first | omega | assumption | rfl | (simp only [vcS] <;> omega) | fail) only [↓vcL1, ↓vcA, vcB, ↓reduceIte, Option.bind_some, Option.map_some])
  refine callV_ret (rfrom_ok w1 s hb (by omega)) ?_
  rintro _ w2 ⟨y2, rfl, hy2, hE2⟩
  rw [er]
  simp (disch := first | omega | assumption | rfl | (simp only [vcS] <;> omega) | fail) only [ptS1_eq, ↓vcA, vcB, ↓reduceIte, Nat.reduceEqDiff, reduceCtorEq, Option.bind_some, List.getElem?_toArray, List.getElem?_cons_zero, List.getElem?_cons_succ]
  have ff1 : decide (strOf (fromE s).h = strOf (fromE s).h) = true := decide_eq_true rfl
  have ff2 : decide ((fromE s).e = (fromE s).e) = true := decide_eq_true rfl
  have hdb : byt (fromE s).d := five_byt hr5
  have hE3 := (hE.ext hE1).ext hE2
  have t3 : (!(true == true)) = false := rfl
  have t4 : (!(false == false)) = false := rfl
  have step : W Tryd.prog (Ret fun u w' => u = .bool true ∧ Ext w0 w') 5 17 [(0, .string (strOf s)), (1, .string (strOf hrp)), (60, .bool false)] w2 := by
    (refine W_at c5_ok ?_; refine ⟨_, rfl, ?_⟩; simp (disch := first | omega | assumption | rfl | (simp only [vcS] <;> omega) | fail) only [↓vcA, vcB, ↓reduceIte, Nat.reduceEqDiff, reduceCtorEq])
    (refine W_at c5_ok ?_; refine ⟨_, rfl, ?_⟩; simp (disch := first | omega | assumption | rfl | (simp only [vcS] <;> omega) | fail) only [↓vcL1, ↓vcA, vcB, ↓reduceIte, Nat.reduceEqDiff, reduceCtorEq, Option.bind_some, Option.map_some])
    refine callV_ret (fromSeg_ok w2 hrp s hh hb (by omega)) ?_
    rintro _ w3 ⟨z1, rfl, hz1, hE4⟩
    rw [ew]
    simp (disch := first | omega | assumption | rfl | (simp only [vcS] <;> omega) | fail) only [ptS1_eq, ↓vcA, vcB, ↓reduceIte, Nat.reduceEqDiff, reduceCtorEq, Option.bind_some, List.getElem?_toArray, List.getElem?_cons_zero, List.getElem?_cons_succ]
    (refine W_at c5_ok ?_; refine ⟨_, rfl, ?_⟩; simp (disch := first | omega | assumption | rfl | (simp only [vcS] <;> omega) | fail) only [↓vcL1, ↓vcA, vcB, ↓reduceIte, Nat.reduceEqDiff, reduceCtorEq, Option.bind_some, Option.map_some])
    refine callV_ret (rfromSeg_ok w3 hrp s hh hb (by omega)) ?_
    rintro _ w4 ⟨z2, rfl, hz2, hE5⟩
    rw [ew]
    clear er ew
    have hE6 := (hE3.ext hE4).ext hE5
    generalize witOf (fromE s) hrp = r at *
    obtain ⟨rv, rp, re⟩ := r
    simp only at hz1 hz2 hag hwp ⊢
    simp (disch := first | omega | assumption | rfl | (simp only [vcS] <;> omega) | fail) only [ptS1_eq, ↓vcA, vcB, ↓reduceIte, Nat.reduceEqDiff, reduceCtorEq, Option.bind_some, List.getElem?_toArray, List.getElem?_cons_zero, List.getElem?_cons_succ]
    have ff3 : decide (rv = rv) = true := decide_eq_true rfl
    have ff4 : decide (re = re) = true := decide_eq_true rfl
    (refine W_at c5_ok ?_; refine ⟨_, rfl, ?_⟩; simp (disch := first | omega | assumption | rfl | (simp only [vcS] <;> omega) | fail) only [↓vcL1, ↓vcA, vcB, ↓reduceIte, Nat.reduceEqDiff, reduceCtorEq, Option.bind_some, Option.map_some])
    refine callV_ret (equal_ok w4 z1 z2 rp rp (hz1.ext hE5) hz2 hwp.1 hwp.1) ?_
    rintro _ wq ⟨rfl, hw⟩
    obtain rfl : w4 = wq := hw.symm
    rw [decide_eq_true rfl]
    first | (simp (disch := first | omega | assumption | rfl | (simp only [vcS] <;> omega) | fail) only [↓vcL1, ptS2_eq, ↓vcA, vcB, ↓vcD, vcE, ↓reduceIte, Nat.reduceEqDiff, Nat.reduceAdd, Nat.reduceMul, Nat.reduceLeDiff, Int.reduceLE, Int.reduceLT, Int.reduceEq, Int.reduceToNat, Int.reduceAdd, Int.reduceSub, Int.reduceMul, Int.reduceNeg, reduceCtorEq, Option.bind_some, Option.map_some, List.length_cons, List.length_nil, vcM, List.getElem?_toArray, List.getElem?_cons_zero, List.getElem?_cons_succ, ff4]) | (simp (disch := first | omega | assumption | rfl | (simp only [vcS] <;> omega) | fail) only [ptS1_eq, ↓vcA, vcB, ↓reduceIte, Nat.reduceEqDiff, reduceCtorEq, Option.bind_some])
    (refine W_at c5_ok ?_; refine ⟨_, rfl, ?_⟩; simp (disch := first | omega | assumption | rfl | (simp only [vcS] <;> omega) | fail) only [↓vcA, vcB, ↓reduceIte, Nat.reduceEqDiff, reduceCtorEq])
    by_cases he : ¬ re = 0
    · (refine W_at c5_ok ?_; refine ⟨_, rfl, ?_⟩; simp (disch := first | omega | assumption | rfl | (simp only [vcS] <;> omega) | fail) only [↓vcA, vcB, ↓reduceIte, Nat.reduceEqDiff, reduceCtorEq, Option.bind_some, he])
      (refine W_at c5_ok ?_; refine ⟨_, rfl, ?_⟩; simp (disch := first | omega | assumption | rfl | (simp only [vcS] <;> omega) | fail) only [↓vcA, vcB, ↓reduceIte, Nat.reduceEqDiff, reduceCtorEq])
      (refine W_at c5_ok ?_; refine ⟨_, rfl, ?_⟩; simp (disch := first | omega | assumption | rfl | (simp only [vcS] <;> omega) | fail) only [↓vcA, vcB, ↓reduceIte])
      (refine W_at c5_ok ?_; refine ⟨_, rfl, ?_⟩; simp (disch := first | omega | assumption | rfl | (simp only [vcS] <;> omega) | fail) only [↓vcA, vcB, ↓reduceIte, Option.bind_some, Option.map_some, Ret_returned])
      first | exact hE6 | exact ⟨rfl, hE6⟩
    replace he := Decidable.not_not.1 he
    obtain ⟨g1, g2, g3, g4, g5⟩ := hag he
    clear ff4
    subst he
    (refine W_at c5_ok ?_; refine ⟨_, rfl, ?_⟩; simp (disch := first | omega | assumption | rfl | (simp only [vcS] <;> omega) | fail) only [↓vcA, vcB, ↓reduceIte, Nat.reduceEqDiff, reduceCtorEq, Option.bind_some])
    (refine W_at c5_ok ?_; refine ⟨_, rfl, ?_⟩; simp (disch := first | omega | assumption | rfl | (simp only [vcS] <;> omega) | fail) only [↓vcA, vcB, ↓reduceIte, Nat.reduceEqDiff, reduceCtorEq])
    (refine W_at c5_ok ?_; refine ⟨_, rfl, ?_⟩; simp (disch := first | omega | assumption | rfl | (simp only [vcS] <;> omega) | fail) only [↓vcL1, ↓vcA, vcB, ↓reduceIte, Nat.reduceEqDiff, reduceCtorEq, Option.bind_some, Option.map_some])
    refine callV_ret (segwit_ok w4 hrp rp rv z1 hh hhm (hz1.ext hE5) g4 g5) ?_
    rintro _ w5 ⟨rfl, hE7⟩
    unfold bechR
    rw [g1]
    have hsa := str_size (segE hrp rv rp).1
    rw [g2] at hsa
    generalize (segE hrp rv rp).1 = again at *
    simp (disch := first | omega | assumption | rfl | (simp only [vcS] <;> omega) | fail) only [ptS1_eq, ↓vcA, vcB, ↓reduceIte, Nat.reduceEqDiff, reduceCtorEq, Option.bind_some, List.getElem?_toArray, List.getElem?_cons_zero, List.getElem?_cons_succ]
    (refine W_at c5_ok ?_; refine ⟨_, rfl, ?_⟩; simp (disch := first | omega | assumption | rfl | (simp only [vcS] <;> omega) | fail) only [↓vcL1, ↓vcA, vcB, ↓reduceIte, reduceCtorEq, Option.bind_some, Option.map_some])
    refine callV_ret (rbech_ok w5 hrp [] false _ hh hhm (Rd.nil w5) byt_nil (by simp)) ?_
    rintro _ w6 ⟨rfl, hE8⟩
    unfold bechR
    have hsb := str_size (bechE hrp [] false).1
    have hgt : (0 : Int) < ((bechE hrp [] false).1.length : Int) := by omega
    generalize (bechE hrp [] false).1 = low at *
    generalize (bechE hrp [] false).2 = le at *
    simp (disch := first | omega | assumption | rfl | (simp only [vcS] <;> omega) | fail) only [ptS1_eq, ↓vcA, vcB, ↓reduceIte, Nat.reduceEqDiff, reduceCtorEq, Option.bind_some, List.getElem?_toArray, List.getElem?_cons_zero, List.getElem?_cons_succ]
    have hE9 := (hE6.ext hE7).ext hE8
    (refine W_at c5_ok ?_; refine ⟨_, rfl, ?_⟩; simp (disch := first | omega | assumption | rfl | (simp only [vcS] <;> omega) | fail) only [↓vcA, vcB, ↓reduceIte, Nat.reduceEqDiff, reduceCtorEq, Option.bind_some, hsa, hsb, hsz, hgt])
    (refine W_at c5_ok ?_; refine ⟨_, rfl, ?_⟩; simp (disch := first | omega | assumption | rfl | (simp only [vcS] <;> omega) | fail) only [↓vcA, vcB, ↓reduceIte, Option.bind_some, Option.map_some, Ret_returned])
    first | exact hE9 | exact ⟨rfl, hE9⟩
  cases hm : (fromE s).m with
  | true =>
    (refine W_at c5_ok ?_; refine ⟨_, rfl, ?_⟩; simp (disch := first | omega | assumption | rfl | (simp only [vcS] <;> omega) | fail) only [↓vcL1, ↓vcA, vcB, ↓reduceIte, Nat.reduceEqDiff, reduceCtorEq, Option.bind_some, Option.map_some])
    refine callV_ret (equal_ok w2 y1 y2 _ _ (hy1.ext hE2) hy2 hdb hdb) ?_
    rintro _ wq ⟨rfl, hw⟩
    obtain rfl : w2 = wq := hw.symm
    rw [decide_eq_true rfl]
    first | (simp (disch := first | omega | assumption | rfl | (simp only [vcS] <;> omega) | fail) only [↓vcL1, ptS2_eq, ↓vcA, vcB, ↓vcD, vcE, ↓reduceIte, Nat.reduceEqDiff, Nat.reduceAdd, Nat.reduceMul, Nat.reduceLeDiff, Int.reduceLE, Int.reduceLT, Int.reduceEq, Int.reduceToNat, Int.reduceAdd, Int.reduceSub, Int.reduceMul, Int.reduceNeg, reduceCtorEq, Option.bind_some, Option.map_some, List.length_cons, List.length_nil, vcM, List.getElem?_toArray, List.getElem?_cons_zero, List.getElem?_cons_succ, ff2, t3, t4]) | (simp (disch := first | omega | assumption | rfl | (simp only [vcS] <;> omega) | fail) only [ptS1_eq, ↓vcA, vcB, ↓reduceIte, Nat.reduceEqDiff, reduceCtorEq, Option.bind_some, t3])
    exact step
  | false =>
    (refine W_at c5_ok ?_; refine ⟨_, rfl, ?_⟩; simp (disch := first | omega | assumption | rfl | (simp only [vcS] <;> omega) | fail) only [↓vcL1, ↓vcA, vcB, ↓reduceIte, Nat.reduceEqDiff, reduceCtorEq, Option.bind_some, Option.map_some])
    refine callV_ret (equal_ok w2 y1 y2 _ _ (hy1.ext hE2) hy2 hdb hdb) ?_
    rintro _ wq ⟨rfl, hw⟩
    obtain rfl : w2 = wq := hw.symm
    rw [decide_eq_true rfl]
    first | (simp (disch := first | omega | assumption | rfl | (simp only [vcS] <;> omega) | fail) only [↓vcL1, ptS2_eq, ↓vcA, vcB, ↓vcD, vcE, ↓reduceIte, Nat.reduceEqDiff, Nat.reduceAdd, Nat.reduceMul, Nat.reduceLeDiff, Int.reduceLE, Int.reduceLT, Int.reduceEq, Int.reduceToNat, Int.reduceAdd, Int.reduceSub, Int.reduceMul, Int.reduceNeg, reduceCtorEq, Option.bind_some, Option.map_some, List.length_cons, List.length_nil, vcM, List.getElem?_toArray, List.getElem?_cons_zero, List.getElem?_cons_succ, ff2, t3, t4]) | (simp (disch := first | omega | assumption | rfl | (simp only [vcS] <;> omega) | fail) only [ptS1_eq, ↓vcA, vcB, ↓reduceIte, Nat.reduceEqDiff, reduceCtorEq, Option.bind_some, t4])
    exact step
theorem law_reads (w : World) (s hrp : List Int) (hb : byt s) (hm : s.length ≤ maxLen) (hh : byt hrp) (hhm : hrp.length ≤ maxLen) :
    Calls Tryd.prog 5 #[.string (strOf s), .string (strOf hrp)] w (Ret fun u w' => u = .bool true ∧ Ext w w') := by
  refine calls_of_cfg c5_ok (Nat.le_of_ble_eq_true rfl) ?_
  simp only [argE_nil, argE_cons, Nat.reduceAdd, Nat.zero_add]
  have hml : maxLen = 9223372036854775807 := rfl
  (refine W_at c5_ok ?_; refine ⟨_, rfl, ?_⟩; simp (disch := first | omega | assumption | rfl | (simp only [vcS] <;> omega) | fail) only [↓vcA, vcB, ↓reduceIte, Nat.reduceEqDiff, reduceCtorEq])
  (refine W_at c5_ok ?_; refine ⟨_, rfl, ?_⟩; simp (disch := first | omega | assumption | rfl | (simp only [vcS] <;> omega) | fail) only [↓vcL1, ↓vcA, vcB])
  refine callV_ret (awake_ok w) ?_
  rintro _ w1 ⟨rfl, hE1⟩
  simp (disch := first | omega | assumption | rfl | (simp only [vcS] <;> omega) | fail) only [ptS1_eq, ↓vcA, vcB, ↓reduceIte, Nat.reduceEqDiff, reduceCtorEq, Option.bind_some]
  (refine W_at c5_ok ?_; refine ⟨_, rfl, ?_⟩; simp (disch := first | omega | assumption | rfl | (simp only [vcS] <;> omega) | fail) only [↓vcA, vcB, ↓reduceIte, Nat.reduceEqDiff, reduceCtorEq])
  have hsz := str_size s
  by_cases hg : (200 : Int) < (s.length : Int)
  · have hc1 := str_cut s 0 200
    rw [List.drop_zero] at hc1
    have hk : (200 : Int) ≤ (s.length : Int) := by omega
    (refine W_at c5_ok ?_; refine ⟨_, rfl, ?_⟩; simp (disch := first | omega | assumption | rfl | (simp only [vcS] <;> omega) | fail) only [↓vcA, vcB, ↓reduceIte, Nat.reduceEqDiff, reduceCtorEq, Option.bind_some, hsz, hg])
    (refine W_at c5_ok ?_; refine ⟨_, rfl, ?_⟩; simp (disch := first | omega | assumption | rfl | (simp only [vcS] <;> omega) | fail) only [↓vcA, vcB, ↓reduceIte, Nat.reduceEqDiff, reduceCtorEq])
    (refine W_at c5_ok ?_; refine ⟨_, rfl, ?_⟩; simp (disch := first | omega | assumption | rfl | (simp only [vcS] <;> omega) | fail) only [↓vcA, vcB, ↓reduceIte, Nat.reduceEqDiff, Int.reduceLE, Int.reduceToNat, reduceCtorEq, Option.bind_some, Option.map_some, hsz, hk, hc1])
    exact reads_tail w w1 (s.take 200) hrp _ hE1 (byt_take hb 200) (by rw [List.length_take]; omega) hh hhm
  · (refine W_at c5_ok ?_; refine ⟨_, rfl, ?_⟩; simp (disch := first | omega | assumption | rfl | (simp only [vcS] <;> omega) | fail) only [↓vcA, vcB, ↓reduceIte, Nat.reduceEqDiff, reduceCtorEq, Option.bind_some, hsz, hg])
    (refine W_at c5_ok ?_; refine ⟨_, rfl, ?_⟩; simp (disch := first | omega | assumption | rfl | (simp only [vcS] <;> omega) | fail) only [↓vcA, vcB, ↓reduceIte, Nat.reduceEqDiff, reduceCtorEq])
    exact reads_tail w w1 s hrp _ hE1 hb (by omega) hh hhm
end Go.Proofs
namespace Go.Proofs.YtajkhimlpnebdaaDoor
open Go.Vc Go.ChangeShapes Go.WideShapes Go.ChangeAt Go.RowKit Go.Proofs
set_option maxRecDepth 100000

theorem reads_lifted (os : Os) (started : os.Started) (H : Type) (enc : TypeId × Value → H) :
    ReturnsInHanded {} Tryd.checked os 5 .any (fun w args => (Rows.textReadsSpec.pre enc Tryd.prog Tryd.f5 [] false w args ∧ laidMetH Tryd.prog laid3 w) ∧ sizedMet enc Tryd.prog Tryd.f5 (OpenSpec.ofChange Rows.textReadsSpec) false w args)
      (Rows.textReadsSpec.post enc Tryd.prog Tryd.f5 false true false false) := by
  refine returnsInHanded_of_change_and (C := Tryd.checked) (X := fun w _ => laidMetH Tryd.prog laid3 w) (fun _ _ _ hh h => h.of_heap hh) Tryd.own started (by kernel_rfl) Tryd.func5
    (ChangeSpec.witness_shaped (enc := enc) (C := Tryd.checked) (os := os) (X := fun w _ => laidMetH Tryd.prog laid3 w) false (World.laidAll Tryd.prog os laid3) #[.string ⟨#[]⟩, .string ⟨#[]⟩] 8 (World.laidAll_os _ _ _)
      (World.shaped_of_ZipB (by kernel_rfl) (by kernel_rfl)) (by kernel_rfl) (by kernel_rfl) (by kernel_rfl) (laid3_met os _)) ?_
  intro W base args ds gs before hval0 hW _ _ _ _
  refine post_true Tryd.laidOut rfl rfl (tb := 4) (by kernel_rfl) ?_ ?_ hval0 hW ?_
  · rw [Tryd.params5]; intro t ht; simp at ht; subst ht; exact ⟨by kernel_rfl, of_decide_eq_true (by kernel_rfl)⟩
  · intro ds hd; rw [Tryd.params5] at hd; match ds, hd with | [_, _], _ => rfl
  · intro hs ha
    rw [Tryd.params5] at hs ha
    obtain ⟨v, u, rfl⟩ := args_2 hs
    obtain ⟨h, rfl, hb, hm⟩ := str_arg (m := 6) (by kernel_rfl) Tryd.underlying9 (ha 0 9 v rfl rfl)
    obtain ⟨p, rfl, hb2, hm2⟩ := str_arg (m := 6) (by kernel_rfl) Tryd.underlying9 (ha 1 9 u rfl rfl)
    exact law_reads W h p hb hm hb2 hm2
theorem reads_holds : Rows.TextReadsSaid :=
  OpenClaim.holds_of_wide 5 Tryd.f5 rfl rfl rfl rfl rfl rfl rfl ⟨rfl, rfl, rfl, rfl, rfl⟩ rfl rfl rfl rfl rfl (by kernel_rfl) Tryd.func5 (by kernel_rfl)
    (of_decide_eq_true (by kernel_rfl)) (by unfold Func.isWrapper; first | (rw [if_pos (by decide +kernel)]; kernel_rfl) | (rw [if_neg (by decide +kernel)]; exact ⟨rfl, rfl⟩))
    (fun os started H enc _ => reads_lifted os started H enc)
theorem readsCard_holds : Rows.TextReadsCardSaid :=
  Claim7.holds_tied_plain_at .later [] [.data, .pinned, .pinned] true Rows.textReadsCard.stood.harness Rows.textReadsCard.stood.looks
    reads_holds (fun _ h => by cases h) (by kernel_rfl) (fun _ h => by cases h) textReads_row_tie rfl ⟨rfl, rfl⟩ (by kernel_rfl) rfl
    (fun f fn hf hfn => by
      obtain rfl : f = 5 := Option.some.inj ((show Tryd.prog.funcNamed Rows.textReadsRow.func = some 5 by kernel_rfl).symm.trans hf) |>.symm
      obtain rfl : fn = Tryd.f5 := (Option.some.inj (Tryd.func5.symm.trans hfn)).symm
      exact ⟨by kernel_rfl, fun j t ht => by
        rw [Tryd.params5] at ht
        have hm : t ∈ [9, 9] := by simpa using Array.mem_of_getElem? ht
        have hall : ([9, 9].all fun u => !Tryd.prog.wantsStandIn u) = true := by kernel_rfl
        exact (show Tryd.prog.wantsStandIn t = false by simpa using List.all_eq_true.1 hall t hm)⟩)
    (by kernel_rfl)
end Go.Proofs.YtajkhimlpnebdaaDoor
