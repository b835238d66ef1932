/- 'strongboxlaw03.TextOneLetter' returns true for every input, and the input reads as it did; what its listed variables hold is tied to the program's text. No condition. -/
import Derived.Test.YtajkhimlpnebdaaDoorL2
import Derived.Test.YtajkhimlpnebdaaDoorCards
import Derived.Test.YtajkhimlpnebdaaDoorRows
import Derived.Test.YtajkhimlpnebdaaDoorTie
set_option linter.unusedSimpArgs false
set_option linter.unusedVariables false
set_option linter.constructorNameAsVariable false
namespace Go.Proofs
open Go.Vc
set_option maxRecDepth 10000

theorem place_l32 {x : Int} (h : 0 ≤ x ∧ x < 32) : placeF (l32F x) l32S 0 = x := by
  have hd : ∀ n : Fin 32, placeF (l32F ((n.val : Nat) : Int)) l32S 0 = ((n.val : Nat) : Int) := by decide +kernel
  obtain ⟨n, rfl⟩ : ∃ n : Nat, x = (n : Int) := ⟨x.toNat, by omega⟩
  exact hd ⟨n, by omega⟩
theorem l32_fine {x : Int} (h : 0 ≤ x ∧ x < 32) : see (l32F x) = true ∧ lwF (l32F x) = l32F x ∧ l32F x ≠ 49 := by
  have hd : ∀ n : Fin 32, see (l32F ((n.val : Nat) : Int)) = true ∧ lwF (l32F ((n.val : Nat) : Int)) = l32F ((n.val : Nat) : Int) ∧ l32F ((n.val : Nat) : Int) ≠ 49 := by decide +kernel
  obtain ⟨n, rfl⟩ : ∃ n : Nat, x = (n : Int) := ⟨x.toNat, by omega⟩
  exact hd ⟨n, by omega⟩
theorem lastF_none : ∀ (l : List Int) (k : Nat), (∀ x ∈ l, x ≠ 49) → lastF l k = -1 := fun l k h => by
  rcases lastF_spec l k with ⟨h1, _⟩ | ⟨i, _, _, h3, _⟩
  · exact h1
  · exact absurd rfl (h 49 (List.mem_of_getElem? h3))
theorem lastF_at : ∀ (h L : List Int) (k : Nat), (∀ x ∈ L, x ≠ 49) → lastF (h ++ 49 :: L) k = ((k + h.length : Nat) : Int)
  | [], L, k, hL => by
    rw [List.nil_append, lastF, lastF_none L _ hL, if_neg (by decide), if_pos rfl]; rfl
  | b :: h, L, k, hL => by
    rw [List.cons_append, lastF, lastF_at h L (k + 1) hL, if_pos (by omega), List.length_cons]
    congr 1; omega
theorem okH_all {h : List Int} (hk : okH h = true) : ∀ x ∈ h, okc x = true := fun x hx => List.all_eq_true.1 hk x hx
theorem okc_fine {x : Int} (h : okc x = true) : see x = true ∧ lwF x = x ∧ (33 ≤ x ∧ x ≤ 126) := by
  simp [okc] at h
  refine ⟨by simp [see]; omega, ?_, by omega⟩
  unfold lwF
  split
  · omega
  · rfl
/-- A text of a part for people and letters. -/
theorem from_letters {h us : List Int} (h0 : h ≠ []) (hk : okH h = true) (h5 : five us) (hl : h.length + 1 + us.length ≤ 90) (h6 : 6 ≤ us.length) : fromE (h ++ 49 :: us.map l32F) = readV h us := by
  have hs : ∀ x ∈ h ++ 49 :: us.map l32F, see x = true ∧ lwF x = x := fun x hx => by
    rcases List.mem_append.1 hx with hx | hx
    · have := okc_fine (okH_all hk x hx); exact ⟨this.1, this.2.1⟩
    · rcases List.mem_cons.1 hx with rfl | hx
      · exact ⟨rfl, rfl⟩
      · obtain ⟨y, hy, rfl⟩ := List.mem_map.1 hx
        have := l32_fine (h5 y hy); exact ⟨this.1, this.2.1⟩
  have h1 : (h ++ 49 :: us.map l32F).map lwF = h ++ 49 :: us.map l32F := by
    conv => rhs; rw [← List.map_id (h ++ 49 :: us.map l32F)]
    exact List.map_congr_left fun x hx => (hs x hx).2
  have h2 : plainE (h ++ 49 :: us.map l32F) = (h ++ 49 :: us.map l32F, true) := by
    rw [plainE, if_pos (show seen _ = true from List.all_eq_true.2 fun x hx => (hs x hx).1), h1]
    simp
  have hlen : (h ++ 49 :: us.map l32F).length = h.length + 1 + us.length := by simp; omega
  have hla := lastF_at h (us.map l32F) 0 fun x hx => by
    obtain ⟨y, hy, rfl⟩ := List.mem_map.1 hx
    exact (l32_fine (h5 y hy)).2.2
  rw [Nat.zero_add] at hla
  have hp : 1 ≤ h.length := by
    cases h with
    | nil => exact absurd rfl h0
    | cons => simp
  rw [fromE, if_neg (by omega), h2, fromP]
  simp only
  rw [hla, hlen, if_neg (by rintro (h | h | h); · cases h
                            · omega
                            · omega), Int.toNat_natCast, List.take_left]
  have e1 : (h ++ 49 :: us.map l32F).drop (h.length + 1) = us.map l32F := by
    rw [← List.drop_drop, List.drop_left]; rfl
  have e2 : valsF (us.map l32F) = us := by
    rw [valsF, List.map_map]
    conv => rhs; rw [← List.map_id us]
    exact List.map_congr_left fun x hx => place_l32 (h5 x hx)
  rw [e1, e2]
theorem constB_lt (m : Bool) : (constB m).toNat < 2 ^ 30 := by cases m <;> decide
theorem spread_five {h : List Int} (hb : byt h) : five (spreadF h) := by
  refine five_app (fun x hx => ?_) fun x hx => ?_
  · obtain ⟨y, hy, rfl⟩ := List.mem_map.1 hx
    have := hb y hy; show 0 ≤ y / 32 ∧ y / 32 < 32; omega
  · rcases List.mem_cons.1 hx with rfl | hx
    · omega
    · obtain ⟨y, hy, rfl⟩ := List.mem_map.1 hx
      show 0 ≤ y % 32 ∧ y % 32 < 32; omega
theorem sumL_five (h d : List Int) (m : Bool) : five (sumL h d m) := fun x hx => by have := letters_b _ _ x hx; omega
theorem sumL_len (h d : List Int) (m : Bool) : (sumL h d m).length = 6 := by simp [sumL, lettersF]
/-- With its sum it yields the constant. -/
theorem sum_const {h d : List Int} (m : Bool) (hb : byt h) (h5 : five d) : runB 25 bechG (spreadF h ++ (d ++ sumL h d m)) = constB m := by
  have hv : five (spreadF h ++ d) := five_app (spread_five hb) h5
  have hc := rG_lt (spreadF h ++ d) (c := 1#64) (by decide) hv
  have e1 : runB 25 bechG (spreadF h ++ (d ++ sumL h d m)) = rG (rG 1#64 (spreadF h ++ d)) (sumL h d m) := by
    rw [← rG_app, List.append_assoc]; rfl
  have e2 : sumX h d m = rG (rG 1#64 (spreadF h ++ d)) (List.replicate 6 0) ^^^ constB m := by
    rw [← rG_app]; rfl
  have hz := rG_zeros (sumL h d m) hc hc (sumL_five h d m)
  have hX : (sumX h d m).toNat < 2 ^ 30 := by
    rw [e2]
    exact xor_lt (rG_lt _ hc (five_rep 6)) (constB_lt m)
  rw [sumL_len, BitVec.xor_self, show dV 0#64 (sumL h d m) = sumX h d m from dV_letters hX] at hz
  rw [e1]
  generalize rG (rG 1#64 (spreadF h ++ d)) (sumL h d m) = A at *
  generalize rG (rG 1#64 (spreadF h ++ d)) (List.replicate 6 0) = B at *
  rw [e2] at hz
  have h3 := congrArg (B ^^^ ·) hz
  have e4 : B ^^^ (A ^^^ B) = A := by rw [BitVec.xor_comm A B, ← BitVec.xor_assoc, BitVec.xor_self, BitVec.zero_xor]
  have e5 : B ^^^ (B ^^^ constB m) = constB m := by rw [← BitVec.xor_assoc, BitVec.xor_self, BitVec.zero_xor]
  simp only [e4, e5] at h3
  exact h3
/-- What may be written. -/
structure Fit (h d : List Int) : Prop where
  byt : byt h
  ne : h ≠ []
  ok : okH h = true
  five : five d
  len : h.length + 1 + d.length + 6 ≤ 90
theorem bechE_fit {h d : List Int} {m : Bool} (hb : byt h) (hd : byt d) (he : (bechE h d m).2 = 0) : Fit h d ∧ bechE h d m = (bechF h d m, 0) := by
  unfold bechE at he ⊢
  split at he
  · cases he
  · rename_i h1
    rw [if_neg h1]
    split at he
    · cases he
    · rename_i h2
      rw [if_neg h2]
      refine ⟨⟨hb, fun h => h2 (.inl h), ?_, ?_, by omega⟩, rfl⟩
      · cases ho : okH h with
        | true => rfl
        | false => exact absurd (.inr (.inl ho)) h2
      · refine bigV_five hd ?_
        cases ho : bigV d with
        | false => rfl
        | true => exact absurd (.inr (.inr ho)) h2
theorem no_neg {us : List Int} (h : five us) : ¬ us.any (fun v => decide (v < 0)) = true := by
  intro ha
  obtain ⟨x, hx, hx2⟩ := List.any_eq_true.1 ha
  have := h x hx
  simp at hx2; omega
/-! ### One letter -/
def chkG : Nat → BitVec 64 → Bool
  | 0, _ => true
  | k + 1, d => decide (d ≠ 0#64) && decide (d ≠ constB false ^^^ constB true) && chkG k (tG d 0#64)
theorem chk_ok : ∀ (k n : Nat) (d : BitVec 64), chkG n d = true → k < n → dG k d ≠ 0#64 ∧ dG k d ≠ constB false ^^^ constB true
  | _, 0, _, _, h => by omega
  | 0, n + 1, d, h, _ => by
    simp [chkG] at h
    exact ⟨h.1.1, h.1.2⟩
  | k + 1, n + 1, d, h, hk => by
    rw [chkG, Bool.and_eq_true] at h
    exact chk_ok k n _ h.2 (by omega)
theorem chk_all : ∀ e : Fin 32, e.val ≠ 0 → chkG 95 (BitVec.ofNat 64 e.val) = true := by decide +kernel
theorem one_letter {h pre post : List Int} {x y : Int} {m : Bool} (hb : byt h) (h5 : five (pre ++ x :: post)) (hy : 0 ≤ y ∧ y < 32) (hne : x ≠ y) (hl : (pre ++ x :: post).length ≤ 90) (hs : runB 25 bechG (spreadF h ++ (pre ++ x :: post)) = constB m) :
    runB 25 bechG (spreadF h ++ (pre ++ y :: post)) ≠ constB false ∧ runB 25 bechG (spreadF h ++ (pre ++ y :: post)) ≠ constB true := by
  have hx := h5 x (by simp)
  have hpre : five pre := fun v hv => h5 v (by simp [hv])
  have hpost : five post := fun v hv => h5 v (by simp [hv])
  have hv : five (spreadF h ++ pre) := five_app (spread_five hb) hpre
  have hc := rG_lt (spreadF h ++ pre) (c := 1#64) (by decide) hv
  have er : ∀ z, runB 25 bechG (spreadF h ++ (pre ++ z :: post)) = rG (stepB 25 bechG (rG 1#64 (spreadF h ++ pre)) z) post := fun z => by
    rw [← List.append_assoc]
    show rG 1#64 (spreadF h ++ pre ++ z :: post) = _
    rw [rG_app]; rfl
  obtain ⟨e, he, hen⟩ := b64_xor hx hy
  have h1 := step_diffG hc hc x y
  have h2 := rG_same post (step_ltG hc hx) (step_ltG hc hy) hpost
  have h0 : tG 0#64 (b64 x ^^^ b64 y) = BitVec.ofNat 64 e.val := by
    rw [he]
    have hd : ∀ (e1 : Fin 32), tG 0#64 (BitVec.ofNat 64 e1.val) = BitVec.ofNat 64 e1.val := by decide +kernel
    exact hd e
  rw [BitVec.xor_self, h0] at h1
  rw [h1, ← er, ← er, hs] at h2
  obtain ⟨c1, c2⟩ := chk_ok post.length 95 _ (chk_all e (hen hne)) (by rw [List.length_append, List.length_cons] at hl; omega)
  rw [← h2] at c1 c2
  generalize runB 25 bechG (spreadF h ++ (pre ++ y :: post)) = R at *
  constructor
  · rintro rfl
    cases m
    · exact c1 (BitVec.xor_self)
    · exact c2 (BitVec.xor_comm _ _)
  · rintro rfl
    cases m
    · exact c2 rfl
    · exact c1 (BitVec.xor_self)
theorem letter_told {h d pre post : List Int} {m : Bool} {x y : Int} (hf : Fit h d) (hw : d ++ sumL h d m = pre ++ x :: post) (hy : 0 ≤ y ∧ y < 32) (hne : x ≠ y) : fromE (h ++ 49 :: (pre ++ y :: post).map l32F) = noRead 5 := by
  have h5 : five (pre ++ x :: post) := by rw [← hw]; exact five_app hf.five (sumL_five h d m)
  have hl : (pre ++ x :: post).length = d.length + 6 := by rw [← hw, List.length_append, sumL_len]
  have hl2 : (pre ++ y :: post).length = d.length + 6 := by rw [← hl]; simp
  have hlen := hf.len
  have h5y : five (pre ++ y :: post) := fun v hv => by
    rcases List.mem_append.1 hv with hv | hv
    · exact h5 v (by simp [hv])
    · rcases List.mem_cons.1 hv with rfl | hv
      · exact hy
      · exact h5 v (by simp [hv])
  have hs := sum_const m hf.byt hf.five
  rw [hw] at hs
  rw [from_letters hf.ne hf.ok h5y (by omega) (by omega), readV, if_neg (no_neg h5y), if_pos (one_letter hf.byt h5 hy hne (by omega) hs)]
end Go.Proofs
namespace Go.Proofs
open Go.Vc
set_option maxRecDepth 10000

theorem args_3 {args : Array Value} (h : args.size = 3) : ∃ v u x, args = #[v, u, x] := by
  obtain ⟨l⟩ := args
  match l, h with
  | [v, u, x], _ => exact ⟨v, u, x, rfl⟩

theorem flat_ones {k : IntKind} : ∀ {xs : List (Array Value)} {bs : List Int}, bs.length = xs.length → (∀ i (h : i < xs.length) (h' : i < bs.length), xs[i] = #[Value.int k bs[i]]) → xs.flatMap Array.toList = bs.map (.int k)
  | [], [], _, _ => rfl
  | [], _ :: _, h, _ => by simp at h
  | _ :: _, [], h, _ => by simp at h
  | x :: xs, b :: bs, h, hx => by
    have h0 := hx 0 (by simp) (by simp)
    simp only [List.getElem_cons_zero] at h0
    have ih := flat_ones (k := k) (xs := xs) (bs := bs) (by simpa using h) fun i h1 h2 => by
      have := hx (i + 1) (by simpa using h1) (by simpa using h2)
      simpa using this
    rw [List.flatMap_cons, h0, ih]; rfl
/-- A slice of integers. -/
theorem ints_of {k : IntKind} {w : World} {q : Option Addr} {n c : Nat} (h : Lies w (.sl (.cons (.int k) .nil)) (.slice q n c)) : n ≤ maxLen ∧ ∃ bs : List Int, bs.length = n ∧ rdS w 1 (.slice q n c) = some (bs.map (.int k)).toArray ∧ ∀ b ∈ bs, k.min ≤ b ∧ b ≤ k.max := by
  simp only [Lies] at h
  obtain ⟨q', n', c', xs, h1, h2, h3, h4, h5, h6, h7⟩ := h
  cases h1
  have hx : ∀ x ∈ xs, ∃ b : Int, x = #[Value.int k b] ∧ k.min ≤ b ∧ b ≤ k.max := by
    intro x hx
    have h := h7 x hx
    cases hl : x.toList with
    | nil => rw [hl] at h; simp [LiesAll] at h
    | cons y l =>
      rw [hl] at h
      simp only [LiesAll, Lies] at h
      obtain ⟨⟨b, rfl, hb⟩, rfl⟩ := h
      exact ⟨b, Array.ext' hl, wf_int hb⟩
  obtain ⟨bs, hl, hbs⟩ := list_choose xs hx
  refine ⟨Nat.le_trans h2 h3, bs, by omega, ?_, ?_⟩
  · rw [show (1 : Nat) = Tys.len (.cons (.int k) .nil) from rfl, h5, flat_ones hl fun i h h' => (hbs i h h').1]
  · intro b hb
    obtain ⟨i, hi, rfl⟩ := List.getElem_of_mem hb
    exact (hbs i (by omega) hi).2
/-- A slice of bytes. -/
theorem bytes_of {w : World} {v : Value} (h : Lies w (.sl (.cons (.int .u8) .nil)) v) : ∃ bs, Rd w v bs ∧ byt bs := by
  have h0 := h
  simp only [Lies] at h
  obtain ⟨q, n, c, _, rfl, h2, _⟩ := h
  obtain ⟨hm, bs, hl, hr, hb⟩ := ints_of h0
  subst hl
  refine ⟨bs, ⟨⟨q, c, rfl, h2⟩, hm, hr⟩, fun b hx => ?_⟩
  have h1 : IntKind.u8.min = 0 := by decide
  have h2 : IntKind.u8.max = 255 := by decide
  have := hb b hx
  rw [h1, h2] at this; exact this
end Go.Proofs
namespace Go.Proofs.YtajkhimlpnebdaaDoor
open Go.Vc Go.ChangeShapes Go.WideShapes Go.ChangeAt Go.RowKit Go.Proofs
theorem Tryd.own : ownKnob Tryd.prog.godebug = none := by kernel_rfl
theorem Tryd.laidOut : laidOutB Tryd.prog = true := by kernel_rfl
abbrev laid3 : List (String × DataW Unit) := Rows.textBechRow.laid
set_option maxRecDepth 100000 in
theorem laid3_met (os : Os) (args : Array Value) : laidMetH Tryd.prog laid3 ((World.laidAll Tryd.prog os laid3).forCall (fun _ _ => 0) ⟨#[], args, []⟩).memory := by
  rw [MakeChecks.laidMetH_plain _ _ _ (by kernel_rfl)]
  exact laidMet_laidAll _ (by kernel_rfl) (by kernel_rfl)
theorem str_arg {P : Program} {W : World} {t : TypeId} {v : Value} {m : Nat} (ht : tyOf P m t = some (.cons .str .nil)) (hu : P.underlying t = some .string) (h : ArgLies P W t v) : ∃ s, v = .string (strOf s) ∧ byt s ∧ s.length ≤ maxLen := by
  obtain ⟨x, rfl, hx⟩ := argStr ht hu h
  obtain ⟨s, hs, rfl⟩ := str_of x
  exact ⟨s, rfl, hs, by rw [str_size] at hx; exact hx⟩
end Go.Proofs.YtajkhimlpnebdaaDoor
namespace Go.Proofs
open Go.Vc
set_option maxRecDepth 10000

theorem l32_at_nat {i : Nat} (h : i < 32) : (strOf l32S)[i]? = some (UInt8.ofNat (l32F (i : Int)).toNat) := by
  have := l32_at (x := (i : Int)) (by omega)
  rwa [Int.toNat_natCast] at this
theorem l32_one {i : Nat} (h : i < 32) : (l32S.take (i + 1)).drop i = [l32F (i : Int)] := by
  have hd : ∀ n : Fin 32, (l32S.take (n.val + 1)).drop n.val = [l32F ((n.val : Nat) : Int)] := by decide +kernel
  exact hd ⟨i, h⟩
theorem law_letter (w : World) (h : List Int) (v : Value) (bs : List Int) (at0 : Int) (hb : byt h) (hm : h.length ≤ maxLen) (hv : Rd w v bs) (hdb : byt bs) (hat : -9223372036854775808 ≤ at0 ∧ at0 ≤ 9223372036854775807) :
    Calls Tryd.prog 4 #[.string (strOf h), v, .int .i64 at0] w (Ret fun u w' => u = .bool true ∧ Ext w w') := by
  refine calls_of_cfg c4_ok (Nat.le_of_ble_eq_true rfl) ?_
  simp only [argE_nil, argE_cons, Nat.reduceAdd, Nat.zero_add]
  have hml : maxLen = 9223372036854775807 := rfl
  (refine W_at c4_ok ?_; refine ⟨_, rfl, ?_⟩; simp (disch := first | omega | assumption | rfl | (simp only [vcS] <;> omega) | fail) only [↓ptV_l, ↓vcA, vcB, ↓vcD, vcE, ↓reduceIte, Nat.reduceEqDiff, Nat.reduceAdd, Nat.reduceMul, Nat.reduceLeDiff, Int.reduceLE, Int.reduceLT, Int.reduceEq, Int.reduceToNat, Int.reduceAdd, Int.reduceSub, Int.reduceMul, Int.reduceNeg, reduceCtorEq, Option.bind_some, Option.map_some, List.length_cons, List.length_nil, vcM, List.getElem?_toArray, List.getElem?_cons_zero, List.getElem?_cons_succ])
  (refine W_at c4_ok ?_; refine ⟨_, rfl, ?_⟩; simp (disch := first | omega | assumption | rfl | (simp only [vcS] <;> omega) | fail) only [↓vcL1, ptS2_eq, ↓vcA, vcB, ↓vcD, vcE, ↓reduceIte, Nat.reduceEqDiff, Nat.reduceAdd, Nat.reduceMul, Nat.reduceLeDiff, Int.reduceLE, Int.reduceLT, Int.reduceEq, Int.reduceToNat, Int.reduceAdd, Int.reduceSub, Int.reduceMul, Int.reduceNeg, reduceCtorEq, Option.bind_some, Option.map_some, List.length_cons, List.length_nil, vcM, List.getElem?_toArray, List.getElem?_cons_zero, List.getElem?_cons_succ])
  refine callV_ret (awake_ok w) ?_
  rintro _ w1 ⟨rfl, hE1⟩
  simp (disch := first | omega | assumption | rfl | (simp only [vcS] <;> omega) | fail) only [↓vcL2, ptS1_eq, ↓vcA, vcB, ↓vcD, vcE, ↓reduceIte, Nat.reduceEqDiff, Nat.reduceAdd, Nat.reduceMul, Nat.reduceLeDiff, Int.reduceLE, Int.reduceLT, Int.reduceEq, Int.reduceToNat, Int.reduceAdd, Int.reduceSub, Int.reduceMul, Int.reduceNeg, reduceCtorEq, Option.bind_some, Option.map_some, List.length_cons, List.length_nil, vcM, List.getElem?_toArray, List.getElem?_cons_zero, List.getElem?_cons_succ]
  (refine W_at c4_ok ?_; refine ⟨_, rfl, ?_⟩; simp (disch := first | omega | assumption | rfl | (simp only [vcS] <;> omega) | fail) only [↓ptV_l, ↓vcA, vcB, ↓vcD, vcE, ↓reduceIte, Nat.reduceEqDiff, Nat.reduceAdd, Nat.reduceMul, Nat.reduceLeDiff, Int.reduceLE, Int.reduceLT, Int.reduceEq, Int.reduceToNat, Int.reduceAdd, Int.reduceSub, Int.reduceMul, Int.reduceNeg, reduceCtorEq, Option.bind_some, Option.map_some, List.length_cons, List.length_nil, vcM, List.getElem?_toArray, List.getElem?_cons_zero, List.getElem?_cons_succ])
  have hv1 := hv.ext hE1
  have hlen := hv1.len
  have hrem : ((bs.length : Int)).tmod 2 = ((bs.length % 2 : Nat) : Int) := by rw [Int.tmod_eq_emod_of_nonneg (by omega)]; omega
  have h2 : ¬ (2 : Int) = 0 := by decide
  (refine W_at c4_ok ?_; refine ⟨_, rfl, ?_⟩; simp (disch := first | omega | assumption | rfl | (simp only [vcS] <;> omega) | fail) only [↓vcL1, ptS2_eq, ↓vcA, vcB, ↓vcD, vcE, ↓reduceIte, Nat.reduceEqDiff, Nat.reduceAdd, Nat.reduceMul, Nat.reduceLeDiff, Int.reduceLE, Int.reduceLT, Int.reduceEq, Int.reduceToNat, Int.reduceAdd, Int.reduceSub, Int.reduceMul, Int.reduceNeg, reduceCtorEq, Option.bind_some, Option.map_some, List.length_cons, List.length_nil, vcM, List.getElem?_toArray, List.getElem?_cons_zero, List.getElem?_cons_succ])
  refine callV_ret (short_ok w1 v bs 60 hv1) ?_
  rintro u2 wq ⟨hS, hw⟩
  obtain rfl : w1 = wq := hw.symm
  have hd := hS w1 hv1
  have hd1 : byt (bs.take 60) := byt_take hdb 60
  have hd2 : (bs.take 60).length ≤ 60 := by rw [List.length_take]; omega
  generalize bs.take 60 = d at *
  clear hS
  simp (disch := first | omega | assumption | rfl | (simp only [vcS] <;> omega) | fail) only [↓vcL2, ptS1_eq, ↓vcA, vcB, ↓vcD, vcE, ↓reduceIte, Nat.reduceEqDiff, Nat.reduceAdd, Nat.reduceMul, Nat.reduceLeDiff, Int.reduceLE, Int.reduceLT, Int.reduceEq, Int.reduceToNat, Int.reduceAdd, Int.reduceSub, Int.reduceMul, Int.reduceNeg, reduceCtorEq, Option.bind_some, Option.map_some, List.length_cons, List.length_nil, vcM, List.getElem?_toArray, List.getElem?_cons_zero, List.getElem?_cons_succ, hlen, hrem, h2]
  generalize hmm : decide (((bs.length % 2 : Nat) : Int) = 0) = m
  refine callV_ret (bech32_ok w1 h d m u2 hb hm hd hd1 (by omega)) ?_
  rintro _ w3 ⟨rfl, hE3⟩
  unfold bechR
  have hE : Ext w w3 := hE1.ext hE3
  first | (simp (disch := first | omega | assumption | rfl | (simp only [vcS] <;> omega) | fail) only [↓vcL1, ptS2_eq, ↓vcA, vcB, ↓vcD, vcE, ↓reduceIte, Nat.reduceEqDiff, Nat.reduceAdd, Nat.reduceMul, Nat.reduceLeDiff, Int.reduceLE, Int.reduceLT, Int.reduceEq, Int.reduceToNat, Int.reduceAdd, Int.reduceSub, Int.reduceMul, Int.reduceNeg, reduceCtorEq, Option.bind_some, Option.map_some, List.length_cons, List.length_nil, vcM, List.getElem?_toArray, List.getElem?_cons_zero, List.getElem?_cons_succ]) | (simp (disch := first | omega | assumption | rfl | (simp only [vcS] <;> omega) | fail) only [↓vcL2, ptS1_eq, ↓vcA, vcB, ↓vcD, vcE, ↓reduceIte, Nat.reduceEqDiff, Nat.reduceAdd, Nat.reduceMul, Nat.reduceLeDiff, Int.reduceLE, Int.reduceLT, Int.reduceEq, Int.reduceToNat, Int.reduceAdd, Int.reduceSub, Int.reduceMul, Int.reduceNeg, reduceCtorEq, Option.bind_some, Option.map_some, List.length_cons, List.length_nil, vcM, List.getElem?_toArray, List.getElem?_cons_zero, List.getElem?_cons_succ])
  have out : ∀ tl, W Tryd.prog (Ret fun u w' => u = .bool true ∧ Ext w w') 4 18 ((0, .string (strOf h)) :: (2, .int .i64 at0) :: (7, .string (strOf (bechE h d m).1)) :: (42, .bool true) :: tl) w3 := fun tl => by
    (refine W_at c4_ok ?_; refine ⟨_, rfl, ?_⟩; simp (disch := first | omega | assumption | rfl | (simp only [vcS] <;> omega) | fail) only [↓ptV_l, ↓vcA, vcB, ↓vcD, vcE, ↓reduceIte, Nat.reduceEqDiff, Nat.reduceAdd, Nat.reduceMul, Nat.reduceLeDiff, Int.reduceLE, Int.reduceLT, Int.reduceEq, Int.reduceToNat, Int.reduceAdd, Int.reduceSub, Int.reduceMul, Int.reduceNeg, reduceCtorEq, Option.bind_some, Option.map_some, List.length_cons, List.length_nil, vcM, List.getElem?_toArray, List.getElem?_cons_zero, List.getElem?_cons_succ])
    (refine W_at c4_ok ?_; refine ⟨_, rfl, ?_⟩; simp (disch := first | omega | assumption | rfl | (simp only [vcS] <;> omega) | fail) only [↓ptV_l, ↓vcA, vcB, ↓vcD, vcE, ↓reduceIte, Nat.reduceEqDiff, Nat.reduceAdd, Nat.reduceMul, Nat.reduceLeDiff, Int.reduceLE, Int.reduceLT, Int.reduceEq, Int.reduceToNat, Int.reduceAdd, Int.reduceSub, Int.reduceMul, Int.reduceNeg, reduceCtorEq, Option.bind_some, Option.map_some, List.length_cons, List.length_nil, vcM, List.getElem?_toArray, List.getElem?_cons_zero, List.getElem?_cons_succ])
    (refine W_at c4_ok ?_; refine ⟨_, rfl, ?_⟩; simp (disch := first | omega | assumption | rfl | (simp only [vcS] <;> omega) | fail) only [↓ptV_l, ↓vcA, vcB, ↓vcD, vcE, ↓reduceIte, Nat.reduceEqDiff, Nat.reduceAdd, Nat.reduceMul, Nat.reduceLeDiff, Int.reduceLE, Int.reduceLT, Int.reduceEq, Int.reduceToNat, Int.reduceAdd, Int.reduceSub, Int.reduceMul, Int.reduceNeg, reduceCtorEq, Option.bind_some, Option.map_some, List.length_cons, List.length_nil, vcM, List.getElem?_toArray, List.getElem?_cons_zero, List.getElem?_cons_succ, Ret_returned])
    first | exact hE | exact ⟨rfl, hE⟩
  by_cases he : ¬ (bechE h d m).2 = 0
  · (refine W_at c4_ok ?_; refine ⟨_, rfl, ?_⟩; simp (disch := first | omega | assumption | rfl | (simp only [vcS] <;> omega) | fail) only [↓ptV_l, ↓vcA, vcB, ↓vcD, vcE, ↓reduceIte, Nat.reduceEqDiff, Nat.reduceAdd, Nat.reduceMul, Nat.reduceLeDiff, Int.reduceLE, Int.reduceLT, Int.reduceEq, Int.reduceToNat, Int.reduceAdd, Int.reduceSub, Int.reduceMul, Int.reduceNeg, reduceCtorEq, Option.bind_some, Option.map_some, List.length_cons, List.length_nil, vcM, List.getElem?_toArray, List.getElem?_cons_zero, List.getElem?_cons_succ, he])
    exact out _
  replace he := Decidable.not_not.1 he
  obtain ⟨hf, hF⟩ := bechE_fit hb hd1 he
  rw [hF] at out ⊢
  simp only at out ⊢
  have hfl := hf.len
  have hN : (bechF h d m).length = h.length + 1 + d.length + 6 := by
    simp [bechF, sumL_len]; omega
  have hsz := str_size (bechF h d m)
  have hszh := str_size h
  rw [hN] at hsz
  have c1 : IntKind.i64.wrap (((h.length + 1 + d.length + 6 : Nat) : Int) - (h.length : Int)) = ((d.length + 7 : Nat) : Int) := by rw [wrap_i64 (by omega) (by omega)]; omega
  have c2 : IntKind.i64.wrap (((d.length + 7 : Nat) : Int) - 1) = ((d.length + 6 : Nat) : Int) := by rw [wrap_i64 (by omega) (by omega)]; omega
  by_cases a1 : at0 < 0
  · (refine W_at c4_ok ?_; refine ⟨_, rfl, ?_⟩; simp (disch := first | omega | assumption | rfl | (simp only [vcS] <;> omega) | fail) only [↓ptV_l, ↓vcA, vcB, ↓vcD, vcE, ↓reduceIte, Nat.reduceEqDiff, Nat.reduceAdd, Nat.reduceMul, Nat.reduceLeDiff, Int.reduceLE, Int.reduceLT, Int.reduceEq, Int.reduceToNat, Int.reduceAdd, Int.reduceSub, Int.reduceMul, Int.reduceNeg, reduceCtorEq, Option.bind_some, Option.map_some, List.length_cons, List.length_nil, vcM, List.getElem?_toArray, List.getElem?_cons_zero, List.getElem?_cons_succ, a1])
    exact out _
  by_cases a2 : ((d.length + 6 : Nat) : Int) ≤ at0
  · (refine W_at c4_ok ?_; refine ⟨_, rfl, ?_⟩; simp (disch := first | omega | assumption | rfl | (simp only [vcS] <;> omega) | fail) only [↓ptV_l, ↓vcA, vcB, ↓vcD, vcE, ↓reduceIte, Nat.reduceEqDiff, Nat.reduceAdd, Nat.reduceMul, Nat.reduceLeDiff, Int.reduceLE, Int.reduceLT, Int.reduceEq, Int.reduceToNat, Int.reduceAdd, Int.reduceSub, Int.reduceMul, Int.reduceNeg, reduceCtorEq, Option.bind_some, Option.map_some, List.length_cons, List.length_nil, vcM, List.getElem?_toArray, List.getElem?_cons_zero, List.getElem?_cons_succ, a1, hsz, hszh, c1, c2, a2])
    exact out _
  clear out
  obtain ⟨a, rfl⟩ : ∃ a : Nat, at0 = (a : Int) := ⟨at0.toNat, by omega⟩
  have c3 : IntKind.i64.wrap ((h.length : Int) + 1) = ((h.length + 1 : Nat) : Int) := wrap_i64 (by omega) (by omega)
  have c4 : IntKind.i64.wrap ((a : Int) + ((h.length + 1 : Nat) : Int)) = ((h.length + 1 + a : Nat) : Int) := by rw [wrap_i64 (by omega) (by omega)]; omega
  (refine W_at c4_ok ?_; refine ⟨_, rfl, ?_⟩; simp (disch := first | omega | assumption | rfl | (simp only [vcS] <;> omega) | fail) only [↓ptV_l, ↓vcA, vcB, ↓vcD, vcE, ↓reduceIte, Nat.reduceEqDiff, Nat.reduceAdd, Nat.reduceMul, Nat.reduceLeDiff, Int.reduceLE, Int.reduceLT, Int.reduceEq, Int.reduceToNat, Int.reduceAdd, Int.reduceSub, Int.reduceMul, Int.reduceNeg, reduceCtorEq, Option.bind_some, Option.map_some, List.length_cons, List.length_nil, vcM, List.getElem?_toArray, List.getElem?_cons_zero, List.getElem?_cons_succ, a1, hsz, hszh, c1, c2, a2])
  (refine W_at c4_ok ?_; refine ⟨_, rfl, ?_⟩; simp (disch := first | omega | assumption | rfl | (simp only [vcS] <;> omega) | fail) only [↓ptV_l, ↓vcA, vcB, ↓vcD, vcE, ↓reduceIte, Nat.reduceEqDiff, Nat.reduceAdd, Nat.reduceMul, Nat.reduceLeDiff, Int.reduceLE, Int.reduceLT, Int.reduceEq, Int.reduceToNat, Int.reduceAdd, Int.reduceSub, Int.reduceMul, Int.reduceNeg, reduceCtorEq, Option.bind_some, Option.map_some, List.length_cons, List.length_nil, vcM, List.getElem?_toArray, List.getElem?_cons_zero, List.getElem?_cons_succ])
  (refine W_at c4_ok ?_; refine ⟨_, rfl, ?_⟩; simp (disch := first | omega | assumption | rfl | (simp only [vcS] <;> omega) | fail) only [↓ptV_l, ↓vcA, vcB, ↓vcD, vcE, ↓reduceIte, Nat.reduceEqDiff, Nat.reduceAdd, Nat.reduceMul, Nat.reduceLeDiff, Int.reduceLE, Int.reduceLT, Int.reduceEq, Int.reduceToNat, Int.reduceAdd, Int.reduceSub, Int.reduceMul, Int.reduceNeg, reduceCtorEq, Option.bind_some, Option.map_some, List.length_cons, List.length_nil, vcM, List.getElem?_toArray, List.getElem?_cons_zero, List.getElem?_cons_succ, hszh, c3, c4])
  (refine W_at c4_ok ?_; refine ⟨_, rfl, ?_⟩; simp (disch := first | omega | assumption | rfl | (simp only [vcS] <;> omega) | fail) only [↓ptV_l, ↓vcA, vcB, ↓vcD, vcE, ↓reduceIte, Nat.reduceEqDiff, Nat.reduceAdd, Nat.reduceMul, Nat.reduceLeDiff, Int.reduceLE, Int.reduceLT, Int.reduceEq, Int.reduceToNat, Int.reduceAdd, Int.reduceSub, Int.reduceMul, Int.reduceNeg, reduceCtorEq, Option.bind_some, Option.map_some, List.length_cons, List.length_nil, vcM, List.getElem?_toArray, List.getElem?_cons_zero, List.getElem?_cons_succ])
  -- the letter there
  have hwl : (d ++ sumL h d m).length = d.length + 6 := by rw [List.length_append, sumL_len]
  have hw5 : five (d ++ sumL h d m) := five_app hf.five (sumL_five h d m)
  obtain ⟨pre, x, post, hws, hpl, hql⟩ : ∃ pre x post, d ++ sumL h d m = pre ++ x :: post ∧ pre.length = a ∧ post.length = d.length + 5 - a :=
    ⟨(d ++ sumL h d m).take a, (d ++ sumL h d m)[a], (d ++ sumL h d m).drop (a + 1), by rw [← List.drop_eq_getElem_cons (by omega), List.take_append_drop], by rw [List.length_take]; omega, by rw [List.length_drop]; omega⟩
  have hsF : bechF h d m = h ++ 49 :: pre.map l32F ++ l32F x :: post.map l32F := by
    have e : bechF h d m = h ++ 49 :: (d ++ sumL h d m).map l32F := rfl
    rw [e, hws, List.map_append, List.map_cons]; simp
  have told := fun (y : Int) (hy : 0 ≤ y ∧ y < 32) (hne : x ≠ y) => letter_told hf hws hy hne
  rw [hws] at hw5
  have hx5 := hw5 x (by simp)
  have hAl : (h ++ 49 :: pre.map l32F).length = h.length + 1 + a := by simp [hpl]; omega
  have hBl : (post.map l32F).length = d.length + 5 - a := by rw [List.length_map, hql]
  have hAb : byt (h ++ 49 :: pre.map l32F) ∧ byt (post.map l32F) := by
    have hall : byt (bechF h d m) := by
      show byt (h ++ 49 :: (d ++ sumL h d m).map l32F)
      rw [hws]
      refine byt_app hb fun y hy => ?_
      rcases List.mem_cons.1 hy with rfl | hy
      · omega
      · obtain ⟨z, hz, rfl⟩ := List.mem_map.1 hy
        have := hw5 z hz
        exact l32F_b (by omega)
    rw [hsF] at hall
    exact ⟨fun y hy => hall y (by simp only [List.mem_append] at hy ⊢; exact .inl hy), fun y hy => hall y (by simp only [List.mem_append, List.mem_cons]; exact .inr (.inr hy))⟩
  have hxb := l32F_b (x := x) (by omega)
  have hxi := u8i hxb
  have t1 : ∀ y, h ++ 49 :: (pre ++ y :: post).map l32F = (h ++ 49 :: pre.map l32F) ++ l32F y :: post.map l32F := fun y => by simp
  simp only [t1] at told
  have hsF2 : bechF h d m = (h ++ 49 :: pre.map l32F) ++ l32F x :: post.map l32F := hsF
  clear hsF t1 hws
  generalize h ++ 49 :: pre.map l32F = A at *
  generalize post.map l32F = B at *
  generalize hpp : h.length + 1 + a = p at *
  have hgx : (strOf (A ++ l32F x :: B))[p]? = some (UInt8.ofNat (l32F x).toNat) := by
    have := str_get (bs := A ++ l32F x :: B) (i := p) (by simp; omega)
    rw [this]
    congr 3
    rw [List.getElem_append_right (by omega)]
    simp [hAl]
  have hcutA := str_cut (A ++ l32F x :: B) 0 p
  rw [List.drop_zero, ← hAl, List.take_left] at hcutA
  have hcutB := str_cut (A ++ l32F x :: B) (p + 1) (h.length + 1 + d.length + 6)
  rw [List.take_of_length_le (by simp; omega), ← hAl, ← List.drop_drop, List.drop_left] at hcutB
  simp only [List.drop_succ_cons, List.drop_zero] at hcutB
  rw [hAl] at hcutA hcutB
  rw [hsF2] at hsz ⊢
  have hp90 : p ≤ 90 := by omega
  have hplt : p + 1 ≤ h.length + 1 + d.length + 6 := by omega
  have hABl : (A ++ l32F x :: B).length = h.length + 1 + d.length + 6 := by rw [List.length_append, List.length_cons]; omega
  have hx32 : x < 32 ∧ 0 ≤ x := by omega
  clear hF hN he c1 c2 c3 c4 hsF2 a1 a2
  have L : ∀ (k i : Nat) (wj : World) (tl : Env), k + i = 32 → Ext w wj →
      W Tryd.prog (Ret fun u w' => u = .bool true ∧ Ext w w') 4 13 ((2, .int .i64 (p : Int)) :: (7, .string (strOf (A ++ l32F x :: B))) :: (9, .int .i64 (i : Int)) :: tl) wj := by
    intro k
    induction k with
    | zero =>
      intro i wj tl hi hE
      have hil : ¬ ((i : Int) < 32) := by omega
      (refine W_at c4_ok ?_; refine ⟨_, rfl, ?_⟩; simp (disch := first | omega | assumption | rfl | (simp only [vcS] <;> omega) | fail) only [↓ptV_l, ↓vcA, vcB, ↓vcD, vcE, ↓reduceIte, Nat.reduceEqDiff, Nat.reduceAdd, Nat.reduceMul, Nat.reduceLeDiff, Int.reduceLE, Int.reduceLT, Int.reduceEq, Int.reduceToNat, Int.reduceAdd, Int.reduceSub, Int.reduceMul, Int.reduceNeg, reduceCtorEq, Option.bind_some, Option.map_some, List.length_cons, List.length_nil, vcM, List.getElem?_toArray, List.getElem?_cons_zero, List.getElem?_cons_succ, hil])
      (refine W_at c4_ok ?_; refine ⟨_, rfl, ?_⟩; simp (disch := first | omega | assumption | rfl | (simp only [vcS] <;> omega) | fail) only [↓ptV_l, ↓vcA, vcB, ↓vcD, vcE, ↓reduceIte, Nat.reduceEqDiff, Nat.reduceAdd, Nat.reduceMul, Nat.reduceLeDiff, Int.reduceLE, Int.reduceLT, Int.reduceEq, Int.reduceToNat, Int.reduceAdd, Int.reduceSub, Int.reduceMul, Int.reduceNeg, reduceCtorEq, Option.bind_some, Option.map_some, List.length_cons, List.length_nil, vcM, List.getElem?_toArray, List.getElem?_cons_zero, List.getElem?_cons_succ])
      (refine W_at c4_ok ?_; refine ⟨_, rfl, ?_⟩; simp (disch := first | omega | assumption | rfl | (simp only [vcS] <;> omega) | fail) only [↓ptV_l, ↓vcA, vcB, ↓vcD, vcE, ↓reduceIte, Nat.reduceEqDiff, Nat.reduceAdd, Nat.reduceMul, Nat.reduceLeDiff, Int.reduceLE, Int.reduceLT, Int.reduceEq, Int.reduceToNat, Int.reduceAdd, Int.reduceSub, Int.reduceMul, Int.reduceNeg, reduceCtorEq, Option.bind_some, Option.map_some, List.length_cons, List.length_nil, vcM, List.getElem?_toArray, List.getElem?_cons_zero, List.getElem?_cons_succ])
      (refine W_at c4_ok ?_; refine ⟨_, rfl, ?_⟩; simp (disch := first | omega | assumption | rfl | (simp only [vcS] <;> omega) | fail) only [↓ptV_l, ↓vcA, vcB, ↓vcD, vcE, ↓reduceIte, Nat.reduceEqDiff, Nat.reduceAdd, Nat.reduceMul, Nat.reduceLeDiff, Int.reduceLE, Int.reduceLT, Int.reduceEq, Int.reduceToNat, Int.reduceAdd, Int.reduceSub, Int.reduceMul, Int.reduceNeg, reduceCtorEq, Option.bind_some, Option.map_some, List.length_cons, List.length_nil, vcM, List.getElem?_toArray, List.getElem?_cons_zero, List.getElem?_cons_succ, Ret_returned])
      first | exact hE | exact ⟨rfl, hE⟩
    | succ k ih =>
      intro i wj tl hi hE
      have hil : (i : Int) < 32 := by omega
      have h0 : 0 ≤ (i : Int) := by omega
      have h0p : 0 ≤ (p : Int) := by omega
      have hwi : IntKind.i64.wrap ((i : Int) + 1) = ((i + 1 : Nat) : Int) := wrap_i64 (by omega) (by omega)
      have hwp : IntKind.i64.wrap ((p : Int) + 1) = ((p + 1 : Nat) : Int) := wrap_i64 (by omega) (by omega)
      have gi := l32_at_nat (i := i) (by omega)
      have ui := u8i (l32F_b (x := (i : Int)) (by omega))
      have next : ∀ (wj : World) (tl : Env), Ext w wj → W Tryd.prog (Ret fun u w' => u = .bool true ∧ Ext w w') 4 4 ((2, .int .i64 (p : Int)) :: (7, .string (strOf (A ++ l32F x :: B))) :: (9, .int .i64 (i : Int)) :: tl) wj := fun wj tl hE => by
        (refine W_at c4_ok ?_; refine ⟨_, rfl, ?_⟩; simp (disch := first | omega | assumption | rfl | (simp only [vcS] <;> omega) | fail) only [↓ptV_l, ↓vcA, vcB, ↓vcD, vcE, ↓reduceIte, Nat.reduceEqDiff, Nat.reduceAdd, Nat.reduceMul, Nat.reduceLeDiff, Int.reduceLE, Int.reduceLT, Int.reduceEq, Int.reduceToNat, Int.reduceAdd, Int.reduceSub, Int.reduceMul, Int.reduceNeg, reduceCtorEq, Option.bind_some, Option.map_some, List.length_cons, List.length_nil, vcM, List.getElem?_toArray, List.getElem?_cons_zero, List.getElem?_cons_succ, hwi])
        (refine W_at c4_ok ?_; refine ⟨_, rfl, ?_⟩; simp (disch := first | omega | assumption | rfl | (simp only [vcS] <;> omega) | fail) only [↓ptV_l, ↓vcA, vcB, ↓vcD, vcE, ↓reduceIte, Nat.reduceEqDiff, Nat.reduceAdd, Nat.reduceMul, Nat.reduceLeDiff, Int.reduceLE, Int.reduceLT, Int.reduceEq, Int.reduceToNat, Int.reduceAdd, Int.reduceSub, Int.reduceMul, Int.reduceNeg, reduceCtorEq, Option.bind_some, Option.map_some, List.length_cons, List.length_nil, vcM, List.getElem?_toArray, List.getElem?_cons_zero, List.getElem?_cons_succ])
        exact ih (i + 1) wj _ (by omega) hE
      have hD : Ext w wj.drew := hE.drew
      (refine W_at c4_ok ?_; refine ⟨_, rfl, ?_⟩; simp (disch := first | omega | assumption | rfl | (simp only [vcS] <;> omega) | fail) only [↓ptV_l, ↓vcA, vcB, ↓vcD, vcE, ↓reduceIte, Nat.reduceEqDiff, Nat.reduceAdd, Nat.reduceMul, Nat.reduceLeDiff, Int.reduceLE, Int.reduceLT, Int.reduceEq, Int.reduceToNat, Int.reduceAdd, Int.reduceSub, Int.reduceMul, Int.reduceNeg, reduceCtorEq, Option.bind_some, Option.map_some, List.length_cons, List.length_nil, vcM, List.getElem?_toArray, List.getElem?_cons_zero, List.getElem?_cons_succ, hil])
      (refine W_at c4_ok ?_; refine ⟨_, rfl, ?_⟩; simp (disch := first | omega | assumption | rfl | (simp only [vcS] <;> omega) | fail) only [↓ptV_l, ↓vcA, vcB, ↓vcD, vcE, ↓reduceIte, Nat.reduceEqDiff, Nat.reduceAdd, Nat.reduceMul, Nat.reduceLeDiff, Int.reduceLE, Int.reduceLT, Int.reduceEq, Int.reduceToNat, Int.reduceAdd, Int.reduceSub, Int.reduceMul, Int.reduceNeg, reduceCtorEq, Option.bind_some, Option.map_some, List.length_cons, List.length_nil, vcM, List.getElem?_toArray, List.getElem?_cons_zero, List.getElem?_cons_succ])
      by_cases hlx : l32F (i : Int) = l32F x
      · (refine W_at c4_ok ?_; refine ⟨_, rfl, ?_⟩; simp (disch := first | omega | assumption | rfl | (simp only [vcS] <;> omega) | fail) only [↓ptV_l, ↓vcA, vcB, ↓vcD, vcE, ↓reduceIte, Nat.reduceEqDiff, Nat.reduceAdd, Nat.reduceMul, Nat.reduceLeDiff, Int.reduceLE, Int.reduceLT, Int.reduceEq, Int.reduceToNat, Int.reduceAdd, Int.reduceSub, Int.reduceMul, Int.reduceNeg, reduceCtorEq, Option.bind_some, Option.map_some, List.length_cons, List.length_nil, vcM, List.getElem?_toArray, List.getElem?_cons_zero, List.getElem?_cons_succ, h0, h0p, Int.toNat_natCast, l32S_is, gi, ui, hgx, hxi, hlx])
        (refine W_at c4_ok ?_; refine ⟨_, rfl, ?_⟩; simp (disch := first | omega | assumption | rfl | (simp only [vcS] <;> omega) | fail) only [↓ptV_l, ↓vcA, vcB, ↓vcD, vcE, ↓reduceIte, Nat.reduceEqDiff, Nat.reduceAdd, Nat.reduceMul, Nat.reduceLeDiff, Int.reduceLE, Int.reduceLT, Int.reduceEq, Int.reduceToNat, Int.reduceAdd, Int.reduceSub, Int.reduceMul, Int.reduceNeg, reduceCtorEq, Option.bind_some, Option.map_some, List.length_cons, List.length_nil, vcM, List.getElem?_toArray, List.getElem?_cons_zero, List.getElem?_cons_succ])
        exact next _ _ hD
      · have hne : x ≠ (i : Int) := fun e => hlx (by rw [e])
        have ht := told (i : Int) (by omega) hne
        have s32 : (strOf l32S).size = 32 := by rw [str_size]; rfl
        have hone := str_cut l32S i (i + 1)
        rw [l32_one (by omega)] at hone
        have hb0 : 0 ≤ ((i + 1 : Nat) : Int) := by omega
        have hb1 : 0 ≤ (i : Int) ∧ (i : Int) ≤ ((i + 1 : Nat) : Int) ∧ ((i + 1 : Nat) : Int) ≤ 32 := by omega
        have hb2 : 0 ≤ (p : Int) ∧ (p : Int) ≤ ((h.length + 1 + d.length + 6 : Nat) : Int) := by omega
        have hb3 : 0 ≤ ((p + 1 : Nat) : Int) ∧ ((p + 1 : Nat) : Int) ≤ ((h.length + 1 + d.length + 6 : Nat) : Int) := by omega
        have f1 := concat_fits (a := A) (b := [l32F (i : Int)]) (by simp; omega)
        have f2 := concat_fits (a := A ++ [l32F (i : Int)]) (b := B) (by simp; omega)
        have p1 := str_app A [l32F (i : Int)]
        have p2 := str_app (A ++ [l32F (i : Int)]) B
        have e3 : A ++ [l32F (i : Int)] ++ B = A ++ l32F (i : Int) :: B := by simp
        rw [e3] at p2
        (refine W_at c4_ok ?_; refine ⟨_, rfl, ?_⟩; simp (disch := first | omega | assumption | rfl | (simp only [vcS] <;> omega) | fail) only [↓ptV_l, ↓vcA, vcB, ↓vcD, vcE, ↓reduceIte, Nat.reduceEqDiff, Nat.reduceAdd, Nat.reduceMul, Nat.reduceLeDiff, Int.reduceLE, Int.reduceLT, Int.reduceEq, Int.reduceToNat, Int.reduceAdd, Int.reduceSub, Int.reduceMul, Int.reduceNeg, reduceCtorEq, Option.bind_some, Option.map_some, List.length_cons, List.length_nil, vcM, List.getElem?_toArray, List.getElem?_cons_zero, List.getElem?_cons_succ, h0, h0p, Int.toNat_natCast, l32S_is, gi, ui, hgx, hxi, hlx])
        (refine W_at c4_ok ?_; refine ⟨_, rfl, ?_⟩; simp (disch := first | omega | assumption | rfl | (simp only [vcS] <;> omega) | fail) only [↓ptV_l, ↓vcA, vcB, ↓vcD, vcE, ↓reduceIte, Nat.reduceEqDiff, Nat.reduceAdd, Nat.reduceMul, Nat.reduceLeDiff, Int.reduceLE, Int.reduceLT, Int.reduceEq, Int.reduceToNat, Int.reduceAdd, Int.reduceSub, Int.reduceMul, Int.reduceNeg, reduceCtorEq, Option.bind_some, Option.map_some, List.length_cons, List.length_nil, vcM, List.getElem?_toArray, List.getElem?_cons_zero, List.getElem?_cons_succ])
        (refine W_at c4_ok ?_; refine ⟨_, rfl, ?_⟩; simp (disch := first | omega | assumption | rfl | (simp only [vcS] <;> omega) | fail) only [↓ptV_l, ↓vcA, vcB, ↓vcD, vcE, ↓reduceIte, Nat.reduceEqDiff, Nat.reduceAdd, Nat.reduceMul, Nat.reduceLeDiff, Int.reduceLE, Int.reduceLT, Int.reduceEq, Int.reduceToNat, Int.reduceAdd, Int.reduceSub, Int.reduceMul, Int.reduceNeg, reduceCtorEq, Option.bind_some, Option.map_some, List.length_cons, List.length_nil, vcM, List.getElem?_toArray, List.getElem?_cons_zero, List.getElem?_cons_succ, hsz, hwi, hwp, hb0, hb1, hb2, hb3, Int.toNat_natCast, l32S_is, s32, hone, hcutA, hcutB, bin_sadd, f1, f2, p1, p2])
        have hby : byt (A ++ l32F (i : Int) :: B) := byt_app hAb.1 fun y hy => by
          rcases List.mem_cons.1 hy with rfl | hy
          · exact l32F_b (by omega)
          · exact hAb.2 y hy
        refine callV_ret (from_ok wj.drew.drew (A ++ l32F (i : Int) :: B) hby (by rw [List.length_append, List.length_cons]; omega)) ?_
        rw [ht]
        rintro _ w5 ⟨y5, rfl, _, hE5⟩
        have er : readR (noRead 5) y5 = .tuple #[.string ⟨#[]⟩, y5, .bool false, .int .i64 5] := rfl
        rw [er]
        simp (disch := first | omega | assumption | rfl | (simp only [vcS] <;> omega) | fail) only [↓ptV_l, ↓vcA, vcB, ↓vcD, vcE, ↓reduceIte, Nat.reduceEqDiff, Nat.reduceAdd, Nat.reduceMul, Nat.reduceLeDiff, Int.reduceLE, Int.reduceLT, Int.reduceEq, Int.reduceToNat, Int.reduceAdd, Int.reduceSub, Int.reduceMul, Int.reduceNeg, reduceCtorEq, Option.bind_some, Option.map_some, List.length_cons, List.length_nil, vcM, List.getElem?_toArray, List.getElem?_cons_zero, List.getElem?_cons_succ]
        (refine W_at c4_ok ?_; refine ⟨_, rfl, ?_⟩; simp (disch := first | omega | assumption | rfl | (simp only [vcS] <;> omega) | fail) only [↓ptV_l, ↓vcA, vcB, ↓vcD, vcE, ↓reduceIte, Nat.reduceEqDiff, Nat.reduceAdd, Nat.reduceMul, Nat.reduceLeDiff, Int.reduceLE, Int.reduceLT, Int.reduceEq, Int.reduceToNat, Int.reduceAdd, Int.reduceSub, Int.reduceMul, Int.reduceNeg, reduceCtorEq, Option.bind_some, Option.map_some, List.length_cons, List.length_nil, vcM, List.getElem?_toArray, List.getElem?_cons_zero, List.getElem?_cons_succ])
        (refine W_at c4_ok ?_; refine ⟨_, rfl, ?_⟩; simp (disch := first | omega | assumption | rfl | (simp only [vcS] <;> omega) | fail) only [↓ptV_l, ↓vcA, vcB, ↓vcD, vcE, ↓reduceIte, Nat.reduceEqDiff, Nat.reduceAdd, Nat.reduceMul, Nat.reduceLeDiff, Int.reduceLE, Int.reduceLT, Int.reduceEq, Int.reduceToNat, Int.reduceAdd, Int.reduceSub, Int.reduceMul, Int.reduceNeg, reduceCtorEq, Option.bind_some, Option.map_some, List.length_cons, List.length_nil, vcM, List.getElem?_toArray, List.getElem?_cons_zero, List.getElem?_cons_succ])
        exact next _ _ (hD.drew.ext hE5)
  exact L 32 0 w3 _ (by omega) hE
end Go.Proofs
namespace Go.Proofs.YtajkhimlpnebdaaDoor
open Go.Vc Go.ChangeShapes Go.WideShapes Go.ChangeAt Go.RowKit Go.Proofs
set_option maxRecDepth 100000

theorem letter_lifted (os : Os) (started : os.Started) (H : Type) (enc : TypeId × Value → H) :
    ReturnsInHanded {} Tryd.checked os 4 .any (fun w args => (Rows.textOneLetterSpec.pre enc Tryd.prog Tryd.f4 [] false w args ∧ laidMetH Tryd.prog laid3 w) ∧ sizedMet enc Tryd.prog Tryd.f4 (OpenSpec.ofChange Rows.textOneLetterSpec) false w args)
      (Rows.textOneLetterSpec.post enc Tryd.prog Tryd.f4 false true false false) := by
  refine returnsInHanded_of_change_and (C := Tryd.checked) (X := fun w _ => laidMetH Tryd.prog laid3 w) (fun _ _ _ hh h => h.of_heap hh) Tryd.own started (by kernel_rfl) Tryd.func4
    (ChangeSpec.witness_shaped (enc := enc) (C := Tryd.checked) (os := os) (X := fun w _ => laidMetH Tryd.prog laid3 w) false (World.laidAll Tryd.prog os laid3) #[.string ⟨#[]⟩, .slice none 0 0, .int .i64 0] 8 (World.laidAll_os _ _ _)
      (World.shaped_of_ZipB (by kernel_rfl) (by kernel_rfl)) (by kernel_rfl) (by kernel_rfl) (by kernel_rfl) (laid3_met os _)) ?_
  intro W base args ds gs before hval0 hW _ _ _ _
  refine post_true Tryd.laidOut rfl rfl (tb := 4) (by kernel_rfl) ?_ ?_ hval0 hW ?_
  · rw [Tryd.params4]; intro t ht; simp at ht; rcases ht with rfl | rfl | rfl <;> exact ⟨by kernel_rfl, of_decide_eq_true (by kernel_rfl)⟩
  · intro ds hd; rw [Tryd.params4] at hd; match ds, hd with | [_, _, _], _ => rfl
  · intro hs ha
    rw [Tryd.params4] at hs ha
    obtain ⟨v, u, x, rfl⟩ := args_3 hs
    obtain ⟨h, rfl, hb, hm⟩ := str_arg (m := 6) (by kernel_rfl) Tryd.underlying9 (ha 0 9 v rfl rfl)
    obtain ⟨bs, hR, hd⟩ := bytes_of (argSl (m := 6) (e := .cons (.int .u8) .nil) (by kernel_rfl) Tryd.underlying22 (ha 1 22 u rfl rfl))
    obtain ⟨s, rfl, hwf⟩ := argInt (m := 6) (by kernel_rfl) Tryd.underlying3 (ha 2 3 x rfl rfl)
    exact law_letter W h u bs s hb hm hR hd (wf_i64 hwf)
theorem letter_holds : Rows.TextOneLetterSaid :=
  OpenClaim.holds_of_wide 4 Tryd.f4 rfl rfl rfl rfl rfl rfl rfl ⟨rfl, rfl, rfl, rfl, rfl⟩ rfl rfl rfl rfl rfl (by kernel_rfl) Tryd.func4 (by kernel_rfl)
    (of_decide_eq_true (by kernel_rfl)) (by unfold Func.isWrapper; first | (rw [if_pos (by decide +kernel)]; kernel_rfl) | (rw [if_neg (by decide +kernel)]; exact ⟨rfl, rfl⟩))
    (fun os started H enc _ => letter_lifted os started H enc)
theorem letterCard_holds : Rows.TextOneLetterCardSaid :=
  Claim7.holds_tied_plain_at .later [] [.data, .pinned, .pinned] true Rows.textOneLetterCard.stood.harness Rows.textOneLetterCard.stood.looks
    letter_holds (fun _ h => by cases h) (by kernel_rfl) (fun _ h => by cases h) textOneLetter_row_tie rfl ⟨rfl, rfl⟩ (by kernel_rfl) rfl
    (fun f fn hf hfn => by
      obtain rfl : f = 4 := Option.some.inj ((show Tryd.prog.funcNamed Rows.textOneLetterRow.func = some 4 by kernel_rfl).symm.trans hf) |>.symm
      obtain rfl : fn = Tryd.f4 := (Option.some.inj (Tryd.func4.symm.trans hfn)).symm
      exact ⟨by kernel_rfl, fun j t ht => by
        rw [Tryd.params4] at ht
        have hm : t ∈ [9, 22, 3] := by simpa using Array.mem_of_getElem? ht
        have hall : ([9, 22, 3].all fun u => !Tryd.prog.wantsStandIn u) = true := by kernel_rfl
        exact (show Tryd.prog.wantsStandIn t = false by simpa using List.all_eq_true.1 hall t hm)⟩)
    (by kernel_rfl)
end Go.Proofs.YtajkhimlpnebdaaDoor
