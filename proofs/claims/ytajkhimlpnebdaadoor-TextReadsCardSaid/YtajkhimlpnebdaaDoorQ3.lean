/- Laws that the last text of this claim uses, part 3: written for it, merged by program. -/
import Derived.Test.YtajkhimlpnebdaaDoorQ2
import Derived.Test.YtajkhimlpnebdaaDoorRows
set_option linter.unusedSimpArgs false
set_option linter.unusedVariables false
set_option linter.constructorNameAsVariable false
namespace Go.Proofs
open Go.Vc
set_option maxRecDepth 10000

theorem bit_at {A : List Int} (h : bit A) {i : Nat} (hi : i < A.length) : A[i] = 0 ∨ A[i] = 1 := h _ (List.getElem_mem _)
theorem drop_snoc {A : List Int} {j k : Nat} (h : j + k < A.length) : (A.drop j).take (k + 1) = (A.drop j).take k ++ [A[j + k]] := by
  rw [take_snoc (by rw [List.length_drop]; omega), List.getElem_drop]
theorem valB_take_b {A : List Int} (h : bit A) (k : Nat) : 0 ≤ valB (A.take k) ∧ valB (A.take k) < 2 ^ k := by
  have b := valB_b (bit_take h k)
  have hm : (A.take k).length ≤ k := by rw [List.length_take]; omega
  have : (2 : Int) ^ (A.take k).length ≤ 2 ^ k := by
    have := Nat.pow_le_pow_right (n := 2) (by decide) hm
    exact_mod_cast this
  omega
theorem pow_le7 {n : Nat} (h : n ≤ 7) : (2 : Int) ^ n ≤ 128 := by
  have := Nat.pow_le_pow_right (n := 2) (by decide) h
  have e : ((2 ^ n : Nat) : Int) = 2 ^ n := Int.natCast_pow 2 n
  omega
theorem regE_of {bs : List Int} {a b : Nat} {pad : Bool} (ha : 1 ≤ a ∧ a ≤ 8) (hb : 1 ≤ b ∧ b ≤ 8) :
    regE bs (a : Int) (b : Int) pad = match regF bs a b pad with | none => ([], 3) | some x => (x, 0) := by
  unfold regE
  rw [if_neg (by omega), Int.toNat_natCast, Int.toNat_natCast]
  cases regF bs a b pad <;> rfl
set_option maxHeartbeats 1600000 in
theorem rregroup_ok (w : World) (v : Value) (bs : List Int) (a b : Int) (pad : Bool) (h : Rd w v bs) (hb : byt bs) (hl : bs.length ≤ 1000000) :
    Calls Tryd.prog 38 #[v, .int .i64 a, .int .i64 b, .bool pad] w (Ret fun u w' => GrTo w w' (regE bs a b pad) u) := by
  refine calls_of_cfg c38_ok (Nat.le_of_ble_eq_true rfl) ?_
  simp only [argE_nil, argE_cons, Nat.reduceAdd, Nat.zero_add]
  have hlen := h.len
  (refine W_at c38_ok ?_; refine ⟨_, rfl, ?_⟩; simp (disch := first | omega | assumption | rfl | (simp only [vcS] <;> omega) | fail) only [↓vcA, vcB, ↓reduceIte, Nat.reduceEqDiff, reduceCtorEq])
  have arg : ∀ tl, (a < 1 ∨ 8 < a ∨ b < 1 ∨ 8 < b) → W Tryd.prog (Ret fun u w' => GrTo w w' (regE bs a b pad) u) 38 56 tl w := by
    intro tl hx
    (refine W_at c38_ok ?_; refine ⟨_, rfl, ?_⟩; simp (disch := first | omega | assumption | rfl | (simp only [vcS] <;> omega) | fail) only [↓vcA, vcB, ↓reduceIte, Nat.reduceEqDiff])
    (refine W_at c38_ok ?_; refine ⟨_, rfl, ?_⟩; simp (disch := first | omega | assumption | rfl | (simp only [vcS] <;> omega) | fail) only [↓vcA, vcB, ↓reduceIte, Nat.reduceEqDiff, Option.bind_some, Option.map_some, Ret_returned])
    unfold regE
    rw [if_pos hx]
    exact ⟨_, rfl, New.nil w⟩
  by_cases h1 : a < 1
  · (refine W_at c38_ok ?_; refine ⟨_, rfl, ?_⟩; simp (disch := first | omega | assumption | rfl | (simp only [vcS] <;> omega) | fail) only [↓vcA, vcB, ↓reduceIte, Nat.reduceEqDiff, reduceCtorEq, Option.bind_some, h1])
    (refine W_at c38_ok ?_; refine ⟨_, rfl, ?_⟩; simp (disch := first | omega | assumption | rfl | (simp only [vcS] <;> omega) | fail) only [↓vcA, vcB, ↓reduceIte, Nat.reduceEqDiff, reduceCtorEq])
    exact arg _ (.inl h1)
  by_cases h2 : 8 < a
  · (refine W_at c38_ok ?_; refine ⟨_, rfl, ?_⟩; simp (disch := first | omega | assumption | rfl | (simp only [vcS] <;> omega) | fail) only [↓vcA, vcB, ↓reduceIte, Nat.reduceEqDiff, reduceCtorEq, Option.bind_some, h1, h2])
    (refine W_at c38_ok ?_; refine ⟨_, rfl, ?_⟩; simp (disch := first | omega | assumption | rfl | (simp only [vcS] <;> omega) | fail) only [↓vcA, vcB, ↓reduceIte, Nat.reduceEqDiff, reduceCtorEq])
    exact arg _ (.inr (.inl h2))
  by_cases h3 : b < 1
  · (refine W_at c38_ok ?_; refine ⟨_, rfl, ?_⟩; simp (disch := first | omega | assumption | rfl | (simp only [vcS] <;> omega) | fail) only [↓vcA, vcB, ↓reduceIte, Nat.reduceEqDiff, reduceCtorEq, Option.bind_some, h1, h2, h3])
    (refine W_at c38_ok ?_; refine ⟨_, rfl, ?_⟩; simp (disch := first | omega | assumption | rfl | (simp only [vcS] <;> omega) | fail) only [↓vcA, vcB, ↓reduceIte, Nat.reduceEqDiff, reduceCtorEq])
    exact arg _ (.inr (.inr (.inl h3)))
  by_cases h4 : 8 < b
  · (refine W_at c38_ok ?_; refine ⟨_, rfl, ?_⟩; simp (disch := first | omega | assumption | rfl | (simp only [vcS] <;> omega) | fail) only [↓vcA, vcB, ↓reduceIte, Nat.reduceEqDiff, reduceCtorEq, Option.bind_some, h1, h2, h3, h4])
    (refine W_at c38_ok ?_; refine ⟨_, rfl, ?_⟩; simp (disch := first | omega | assumption | rfl | (simp only [vcS] <;> omega) | fail) only [↓vcA, vcB, ↓reduceIte, Nat.reduceEqDiff, reduceCtorEq])
    exact arg _ (.inr (.inr (.inr h4)))
  (refine W_at c38_ok ?_; refine ⟨_, rfl, ?_⟩; simp (disch := first | omega | assumption | rfl | (simp only [vcS] <;> omega) | fail) only [↓vcA, vcB, ↓reduceIte, Nat.reduceEqDiff, reduceCtorEq, Option.bind_some, h1, h2, h3, h4])
  (refine W_at c38_ok ?_; refine ⟨_, rfl, ?_⟩; simp (disch := first | omega | assumption | rfl | (simp only [vcS] <;> omega) | fail) only [↓vcA, vcB, ↓reduceIte, Nat.reduceEqDiff, reduceCtorEq])
  obtain ⟨a, rfl⟩ := Int.eq_ofNat_of_zero_le (show 0 ≤ a by omega)
  obtain ⟨b, rfl⟩ := Int.eq_ofNat_of_zero_le (show 0 ≤ b by omega)
  have ha : 1 ≤ a ∧ a ≤ 8 := by omega
  have hbb : 1 ≤ b ∧ b ≤ 8 := by omega
  rw [regE_of ha hbb]
  clear arg h1 h2 h3 h4
  (refine W_at c38_ok ?_; refine ⟨_, rfl, ?_⟩; simp (disch := first | omega | assumption | rfl | (simp only [vcS] <;> omega) | fail) only [↓vcA, vcB, ↓reduceIte, Nat.reduceEqDiff, reduceCtorEq])
  have rest : ∀ (tl : Env), fits a bs → W Tryd.prog (Ret fun u w' => GrTo w w' (match regF bs a b pad with | none => ([], 3) | some x => (x, 0)) u) 38 45 ((0, v) :: (1, .int .i64 a) :: (2, .int .i64 b) :: (3, .bool pad) :: tl) w := by
    intro tl hf
    (refine W_at c38_ok ?_; refine ⟨_, rfl, ?_⟩; simp (disch := first | omega | assumption | rfl | (simp only [vcS] <;> omega) | fail) only [↓ptV_l, ↓vcA, vcB, ↓reduceIte, Nat.reduceEqDiff, reduceCtorEq, Option.bind_some, Option.map_some])
    refine callV_ret (rbits_ok w v bs a h hb hl ha) ?_
    rintro v11 w1 hA
    first | (simp (disch := first | omega | assumption | rfl | (simp only [vcS] <;> omega) | fail) only [↓ptV_l, ↓vcA, vcB, ↓vcD, vcE, ↓reduceIte, Nat.reduceEqDiff, Nat.reduceAdd, Nat.reduceMul, Nat.reduceLeDiff, Int.reduceLE, Int.reduceLT, Int.reduceEq, Int.reduceToNat, Int.reduceAdd, Int.reduceSub, Int.reduceMul, Int.reduceNeg, reduceCtorEq, Option.bind_some, Option.map_some, List.length_cons, List.length_nil, vcM, List.getElem?_toArray, List.getElem?_cons_zero, List.getElem?_cons_succ]) | skip
    have hAl := bitsF_len a bs
    have hAl2 : (bitsF a bs).length ≤ 8000000 := by
      rw [hAl]
      exact Nat.le_trans (Nat.mul_le_mul hl ha.2) (by decide)
    have hAb := bitsF_bit a bs
    have hreg : regF bs a b pad = (match groups b (bitsF a bs) with
      | (G, R) => if pad then some (G ++ padF b R) else if R.length ≥ a ∨ valB R ≠ 0 then none else some G) := by
      unfold regF
      rw [if_pos hf]
    rw [hreg]
    clear hreg hAl
    generalize bitsF a bs = A at *
    have hAlen : A.length = A.length := rfl
    have hlenA := hA.own.rd.len
    (refine W_at c38_ok ?_; refine ⟨_, rfl, ?_⟩; simp (disch := first | omega | assumption | rfl | (simp only [vcS] <;> omega) | fail) only [↓vcA, vcB, ↓reduceIte, Nat.reduceEqDiff])
    (refine W_at c38_ok ?_; refine ⟨_, rfl, ?_⟩; simp (disch := first | omega | assumption | rfl | (simp only [vcS] <;> omega) | fail) only [↓vcA, vcB, ↓reduceIte, Nat.reduceEqDiff])
    have cellA : ∀ (wz : World) (i : Nat) (hi : i < A.length), New w1 wz v11 A ∨ Rd wz v11 A → ∃ b0 o c, v11 = .slice (some ⟨b0, o, none⟩) A.length c ∧ cellO wz.heap[b0]? (o + i) = some (.int .u8 A[i]) := fun wz i hi hz => by
      have hz2 : Rd wz v11 A := by
        rcases hz with hz | hz
        · exact hz.own.rd
        · exact hz
      exact hz2.at hi
    have F : ∀ (j : Nat) (wj : World) (v12 : Value) (G : List Int) (tl : Env), A.length < j + b → j ≤ A.length → New w1 wj v12 G → G.length ≤ j → groups b A = (G, A.drop j) →
        W Tryd.prog (Ret fun u w' => GrTo w w' (match (match groups b A with
          | (G, R) => if pad then some (G ++ padF b R) else if R.length ≥ a ∨ valB R ≠ 0 then none else some G) with | none => ([], 3) | some x => (x, 0)) u) 38 42 ((1, .int .i64 a) :: (2, .int .i64 b) :: (3, .bool pad) :: (11, v11) :: (12, v12) :: (13, .int .i64 j) :: tl) wj := by
      intro j wj v12 G tl hjb hj hN hGl hg
      have hnle : ¬ (((j + b : Nat) : Int) ≤ (A.length : Int)) := by omega
      have wjb : IntKind.i64.wrap ((j : Int) + (b : Int)) = ((j + b : Nat) : Int) := by rw [wrap_i64 (by omega) (by omega)]; omega
      have hRl : (A.drop j).length = A.length - j := List.length_drop
      have hRb := bit_drop hAb j
      have wl : IntKind.i64.wrap ((A.length : Int) - (j : Int)) = ((A.drop j).length : Int) := by rw [hRl, wrap_i64 (by omega) (by omega)]; omega
      have hNw : New w wj v12 G := hN.pre hA.ext
      rw [hg]
      (refine W_at c38_ok ?_; refine ⟨_, rfl, ?_⟩; simp (disch := first | omega | assumption | rfl | (simp only [vcS] <;> omega) | fail) only [↓vcA, vcB, ↓reduceIte, Nat.reduceEqDiff, Option.bind_some, hlenA, wjb, hnle])
      (refine W_at c38_ok ?_; refine ⟨_, rfl, ?_⟩; simp (disch := first | omega | assumption | rfl | (simp only [vcS] <;> omega) | fail) only [↓vcA, vcB, ↓reduceIte, Nat.reduceEqDiff])
      (refine W_at c38_ok ?_; refine ⟨_, rfl, ?_⟩; simp (disch := first | omega | assumption | rfl | (simp only [vcS] <;> omega) | fail) only [↓vcA, vcB, ↓reduceIte, Nat.reduceEqDiff, Option.bind_some, hlenA, wl])
      cases pad with
      | true =>
        simp only [if_true]
        by_cases hn : A.drop j = []
        · rw [hn]
          have hp0 : padF b [] = [] := rfl
          rw [hp0, List.append_nil]
          have hlt : ¬ (0 < ((([] : List Int).length : Nat) : Int)) := by simp
          (refine W_at c38_ok ?_; refine ⟨_, rfl, ?_⟩; simp (disch := first | omega | assumption | rfl | (simp only [vcS] <;> omega) | fail) only [↓vcA, vcB, ↓reduceIte, Nat.reduceEqDiff, Int.reduceLT, Option.bind_some, List.length_nil, vcM])
          (refine W_at c38_ok ?_; refine ⟨_, rfl, ?_⟩; simp (disch := first | omega | assumption | rfl | (simp only [vcS] <;> omega) | fail) only [↓vcA, vcB, ↓reduceIte, Nat.reduceEqDiff])
          (refine W_at c38_ok ?_; refine ⟨_, rfl, ?_⟩; simp (disch := first | omega | assumption | rfl | (simp only [vcS] <;> omega) | fail) only [↓vcA, vcB, ↓reduceIte, Nat.reduceEqDiff, Option.bind_some])
          (refine W_at c38_ok ?_; refine ⟨_, rfl, ?_⟩; simp (disch := first | omega | assumption | rfl | (simp only [vcS] <;> omega) | fail) only [↓vcA, vcB, ↓reduceIte, Nat.reduceEqDiff])
          (refine W_at c38_ok ?_; refine ⟨_, rfl, ?_⟩; simp (disch := first | omega | assumption | rfl | (simp only [vcS] <;> omega) | fail) only [↓vcA, vcB, ↓reduceIte, Nat.reduceEqDiff])
          (refine W_at c38_ok ?_; refine ⟨_, rfl, ?_⟩; simp (disch := first | omega | assumption | rfl | (simp only [vcS] <;> omega) | fail) only [↓vcA, vcB, ↓reduceIte, Nat.reduceEqDiff, Option.bind_some, Option.map_some, Ret_returned])
          exact ⟨_, rfl, hNw⟩
        · have hn' : 0 < (A.drop j).length := List.length_pos_iff.2 hn
          have hlt : 0 < ((A.drop j).length : Int) := by omega
          (refine W_at c38_ok ?_; refine ⟨_, rfl, ?_⟩; simp (disch := first | omega | assumption | rfl | (simp only [vcS] <;> omega) | fail) only [↓vcA, vcB, ↓reduceIte, Nat.reduceEqDiff, Option.bind_some, hlt])
          (refine W_at c38_ok ?_; refine ⟨_, rfl, ?_⟩; simp (disch := first | omega | assumption | rfl | (simp only [vcS] <;> omega) | fail) only [↓vcA, vcB, ↓reduceIte, Nat.reduceEqDiff])
          (refine W_at c38_ok ?_; refine ⟨_, rfl, ?_⟩; simp (disch := first | omega | assumption | rfl | (simp only [vcS] <;> omega) | fail) only [↓vcA, vcB, ↓reduceIte, Nat.reduceEqDiff])
          (refine W_at c38_ok ?_; refine ⟨_, rfl, ?_⟩; simp (disch := first | omega | assumption | rfl | (simp only [vcS] <;> omega) | fail) only [↓vcA, vcB, ↓reduceIte, Nat.reduceEqDiff])
          have hpd : padF b (A.drop j) = [valB ((A.drop j ++ List.replicate b (0 : Int)).take b)] := by
            have hrb : (A.drop j).length ≤ b := by omega
            have e : (A.drop j ++ List.replicate b (0 : Int)).take b = A.drop j ++ List.replicate (b - (A.drop j).length) 0 := by
              rw [List.take_append, List.take_of_length_le hrb, List.take_replicate, Nat.min_eq_left (by omega)]
            unfold padF
            rw [if_neg hn, e, valB_app, valB_zeros, List.length_replicate, Int.add_zero]
          have hEb : bit (A.drop j ++ List.replicate b (0 : Int)) := bit_app hRb fun y hy => .inl (List.mem_replicate.1 hy).2
          have hEl : (A.drop j ++ List.replicate b (0 : Int)).length = A.length - j + b := by simp
          rw [hpd]
          have M : ∀ (n k : Nat) (tl : Env), n + k = b → W Tryd.prog (Ret fun u w' => GrTo w w' (G ++ [valB ((A.drop j ++ List.replicate b (0 : Int)).take b)], 0) u) 38 25 ((1, .int .i64 a) :: (2, .int .i64 b) :: (3, .bool true) :: (11, v11) :: (12, v12) :: (13, .int .i64 j) :: (16, .int .i64 (A.drop j).length) :: (17, .int .u8 (valB ((A.drop j ++ List.replicate b (0 : Int)).take k))) :: (18, .int .i64 k) :: tl) wj := by
            intro n
            induction n with
            | zero =>
              intro k tl hk
              have hkb : k = b := by omega
              have hlt : ¬ ((k : Int) < (b : Int)) := by omega
              (refine W_at c38_ok ?_; refine ⟨_, rfl, ?_⟩; simp (disch := first | omega | assumption | rfl | (simp only [vcS] <;> omega) | fail) only [↓vcA, vcB, ↓reduceIte, Nat.reduceEqDiff, Option.bind_some, hlt])
              (refine W_at c38_ok ?_; refine ⟨_, rfl, ?_⟩; simp (disch := first | omega | assumption | rfl | (simp only [vcS] <;> omega) | fail) only [↓vcA, vcB, ↓reduceIte, Nat.reduceEqDiff])
              subst hkb
              (refine W_at c38_ok ?_; refine ⟨_, rfl, ?_⟩; simp (disch := first | omega | assumption | rfl | (simp only [vcS] <;> omega) | fail) only [↓ptV_l, ↓vcA, vcB, ↓reduceIte, Nat.reduceEqDiff, Option.bind_some, Option.map_some, List.length_cons, List.length_nil, vcM])
              refine appNL (news := [valB ((A.drop j ++ List.replicate k (0 : Int)).take k)]) hNw (by simp; omega) fun v1 w2 n1 _ _ => ?_
              first | (simp (disch := first | omega | assumption | rfl | (simp only [vcS] <;> omega) | fail) only [↓ptV_l, ↓vcA, vcB, ↓vcD, vcE, ↓reduceIte, Nat.reduceEqDiff, Nat.reduceAdd, Nat.reduceMul, Nat.reduceLeDiff, Int.reduceLE, Int.reduceLT, Int.reduceEq, Int.reduceToNat, Int.reduceAdd, Int.reduceSub, Int.reduceMul, Int.reduceNeg, reduceCtorEq, Option.bind_some, Option.map_some, List.length_cons, List.length_nil, vcM, List.getElem?_toArray, List.getElem?_cons_zero, List.getElem?_cons_succ]) | skip
              (refine W_at c38_ok ?_; refine ⟨_, rfl, ?_⟩; simp (disch := first | omega | assumption | rfl | (simp only [vcS] <;> omega) | fail) only [↓vcA, vcB, ↓reduceIte, Nat.reduceEqDiff, Option.bind_some])
              (refine W_at c38_ok ?_; refine ⟨_, rfl, ?_⟩; simp (disch := first | omega | assumption | rfl | (simp only [vcS] <;> omega) | fail) only [↓vcA, vcB, ↓reduceIte, Nat.reduceEqDiff])
              (refine W_at c38_ok ?_; refine ⟨_, rfl, ?_⟩; simp (disch := first | omega | assumption | rfl | (simp only [vcS] <;> omega) | fail) only [↓vcA, vcB, ↓reduceIte, Nat.reduceEqDiff])
              (refine W_at c38_ok ?_; refine ⟨_, rfl, ?_⟩; simp (disch := first | omega | assumption | rfl | (simp only [vcS] <;> omega) | fail) only [↓vcA, vcB, ↓reduceIte, Nat.reduceEqDiff, Option.bind_some, Option.map_some, Ret_returned])
              exact ⟨_, rfl, n1⟩
            | succ n ihn =>
              intro k tl hk
              have hlt : (k : Int) < (b : Int) := by omega
              have wjk : IntKind.i64.wrap ((j : Int) + (k : Int)) = ((j + k : Nat) : Int) := by rw [wrap_i64 (by omega) (by omega)]; omega
              have wk1 : IntKind.i64.wrap ((k : Int) + 1) = ((k + 1 : Nat) : Int) := wrap_i64 (by omega) (by omega)
              have hb2 := valB_take_b hEb k
              have hp7 := pow_le7 (n := k) (by omega)
              have hke : k < (A.drop j ++ List.replicate b (0 : Int)).length := by omega
              have hvs : valB ((A.drop j ++ List.replicate b (0 : Int)).take (k + 1)) = 2 * valB ((A.drop j ++ List.replicate b (0 : Int)).take k) + (A.drop j ++ List.replicate b (0 : Int))[k] := by rw [take_snoc hke, valB_snoc]
              have ih2 := fun tl => ihn (k + 1) tl (by omega)
              simp only [hvs] at ih2
              (refine W_at c38_ok ?_; refine ⟨_, rfl, ?_⟩; simp (disch := first | omega | assumption | rfl | (simp only [vcS] <;> omega) | fail) only [↓vcA, vcB, ↓reduceIte, Nat.reduceEqDiff, Option.bind_some, hlt])
              (refine W_at c38_ok ?_; refine ⟨_, rfl, ?_⟩; simp (disch := first | omega | assumption | rfl | (simp only [vcS] <;> omega) | fail) only [↓vcA, vcB, ↓reduceIte, Nat.reduceEqDiff])
              by_cases hjk : j + k < A.length
              · have hjk2 : ((j + k : Nat) : Int) < (A.length : Int) := by omega
                have h0 : 0 ≤ ((j + k : Nat) : Int) := by omega
                obtain ⟨b0, o, c, hv, hcell⟩ := cellA wj (j + k) hjk (.inr (hA.own.rd.ext hN.ext))
                have hx := bit_at hAb hjk
                have hex : (A.drop j ++ List.replicate b (0 : Int))[k] = A[j + k] := by
                  rw [List.getElem_append_left (by rw [List.length_drop]; omega), List.getElem_drop]
                rw [hex] at ih2
                clear hvs hex
                generalize valB ((A.drop j ++ List.replicate b (0 : Int)).take k) = V at *
                generalize A[j + k] = x at *
                have w2 : IntKind.u8.wrap (V * 2) = 2 * V := by rw [wrap_u8]; omega
                have w3 : IntKind.u8.wrap (2 * V + x) = 2 * V + x := by rw [wrap_u8]; omega
                (refine W_at c38_ok ?_; refine ⟨_, rfl, ?_⟩; simp (disch := first | omega | assumption | rfl | (simp only [vcS] <;> omega) | fail) only [↓vcA, vcB, ↓reduceIte, Nat.reduceEqDiff, Option.bind_some, w2])
                (refine W_at c38_ok ?_; refine ⟨_, rfl, ?_⟩; simp (disch := first | omega | assumption | rfl | (simp only [vcS] <;> omega) | fail) only [↓vcA, vcB, ↓reduceIte, Nat.reduceEqDiff, Option.bind_some, hlenA, wjk, hjk2])
                (refine W_at c38_ok ?_; refine ⟨_, rfl, ?_⟩; simp (disch := first | omega | assumption | rfl | (simp only [vcS] <;> omega) | fail) only [↓vcA, vcB, ↓reduceIte, Nat.reduceEqDiff])
                subst hv
                (refine W_at c38_ok ?_; refine ⟨_, rfl, ?_⟩; simp (disch := first | omega | assumption | rfl | (simp only [vcS] <;> omega) | fail) only [↓vcA, vcB, ↓reduceIte, Nat.reduceEqDiff, Option.bind_some, vcM, wjk, hjk2, h0, Int.toNat_natCast, Nat.mul_one, hcell, w3])
                (refine W_at c38_ok ?_; refine ⟨_, rfl, ?_⟩; simp (disch := first | omega | assumption | rfl | (simp only [vcS] <;> omega) | fail) only [↓vcA, vcB, ↓reduceIte, Nat.reduceEqDiff, Option.bind_some, wk1])
                (refine W_at c38_ok ?_; refine ⟨_, rfl, ?_⟩; simp (disch := first | omega | assumption | rfl | (simp only [vcS] <;> omega) | fail) only [vcB])
                exact ih2 _
              · have hjk2 : ¬ (((j + k : Nat) : Int) < (A.length : Int)) := by omega
                have hex : (A.drop j ++ List.replicate b (0 : Int))[k] = 0 := by
                  rw [List.getElem_append_right (by rw [List.length_drop]; omega), List.getElem_replicate]
                rw [hex] at ih2
                clear hvs hex
                generalize valB ((A.drop j ++ List.replicate b (0 : Int)).take k) = V at *
                have w2 : IntKind.u8.wrap (V * 2) = 2 * V := by rw [wrap_u8]; omega
                simp only [Int.add_zero] at ih2
                (refine W_at c38_ok ?_; refine ⟨_, rfl, ?_⟩; simp (disch := first | omega | assumption | rfl | (simp only [vcS] <;> omega) | fail) only [↓vcA, vcB, ↓reduceIte, Nat.reduceEqDiff, Option.bind_some, w2])
                (refine W_at c38_ok ?_; refine ⟨_, rfl, ?_⟩; simp (disch := first | omega | assumption | rfl | (simp only [vcS] <;> omega) | fail) only [↓vcA, vcB, ↓reduceIte, Nat.reduceEqDiff, Option.bind_some, hlenA, wjk, hjk2])
                (refine W_at c38_ok ?_; refine ⟨_, rfl, ?_⟩; simp (disch := first | omega | assumption | rfl | (simp only [vcS] <;> omega) | fail) only [↓vcA, vcB, ↓reduceIte, Nat.reduceEqDiff])
                (refine W_at c38_ok ?_; refine ⟨_, rfl, ?_⟩; simp (disch := first | omega | assumption | rfl | (simp only [vcS] <;> omega) | fail) only [↓vcA, vcB, ↓reduceIte, Nat.reduceEqDiff, Option.bind_some, wk1])
                (refine W_at c38_ok ?_; refine ⟨_, rfl, ?_⟩; simp (disch := first | omega | assumption | rfl | (simp only [vcS] <;> omega) | fail) only [vcB])
                exact ih2 _
          exact M b 0 _ (by omega)
      | false =>
        simp only [Bool.false_eq_true, if_false]
        (refine W_at c38_ok ?_; refine ⟨_, rfl, ?_⟩; simp (disch := first | omega | assumption | rfl | (simp only [vcS] <;> omega) | fail) only [↓vcA, vcB, ↓reduceIte, Nat.reduceEqDiff, Option.bind_some])
        (refine W_at c38_ok ?_; refine ⟨_, rfl, ?_⟩; simp (disch := first | omega | assumption | rfl | (simp only [vcS] <;> omega) | fail) only [↓vcA, vcB, ↓reduceIte, Nat.reduceEqDiff])
        (refine W_at c38_ok ?_; refine ⟨_, rfl, ?_⟩; simp (disch := first | omega | assumption | rfl | (simp only [vcS] <;> omega) | fail) only [↓vcA, vcB, ↓reduceIte, Nat.reduceEqDiff, Option.bind_some])
        (refine W_at c38_ok ?_; refine ⟨_, rfl, ?_⟩; simp (disch := first | omega | assumption | rfl | (simp only [vcS] <;> omega) | fail) only [↓vcA, vcB, ↓reduceIte, Nat.reduceEqDiff])
        by_cases hla : (a : Int) ≤ ((A.drop j).length : Int)
        · rw [if_pos (.inl (by omega))]
          (refine W_at c38_ok ?_; refine ⟨_, rfl, ?_⟩; simp (disch := first | omega | assumption | rfl | (simp only [vcS] <;> omega) | fail) only [↓vcA, vcB, ↓reduceIte, Nat.reduceEqDiff, Option.bind_some, hla])
          (refine W_at c38_ok ?_; refine ⟨_, rfl, ?_⟩; simp (disch := first | omega | assumption | rfl | (simp only [vcS] <;> omega) | fail) only [↓vcA, vcB, ↓reduceIte, Nat.reduceEqDiff])
          (refine W_at c38_ok ?_; refine ⟨_, rfl, ?_⟩; simp (disch := first | omega | assumption | rfl | (simp only [vcS] <;> omega) | fail) only [↓vcA, vcB, ↓reduceIte, Nat.reduceEqDiff])
          (refine W_at c38_ok ?_; refine ⟨_, rfl, ?_⟩; simp (disch := first | omega | assumption | rfl | (simp only [vcS] <;> omega) | fail) only [↓vcA, vcB, ↓reduceIte, Nat.reduceEqDiff, Option.bind_some, Option.map_some, Ret_returned])
          exact ⟨_, rfl, (New.nil wj).pre (hA.ext.ext hN.ext)⟩
        · (refine W_at c38_ok ?_; refine ⟨_, rfl, ?_⟩; simp (disch := first | omega | assumption | rfl | (simp only [vcS] <;> omega) | fail) only [↓vcA, vcB, ↓reduceIte, Nat.reduceEqDiff, Option.bind_some, hla])
          (refine W_at c38_ok ?_; refine ⟨_, rfl, ?_⟩; simp (disch := first | omega | assumption | rfl | (simp only [vcS] <;> omega) | fail) only [↓vcA, vcB, ↓reduceIte, Nat.reduceEqDiff])
          have M : ∀ (n k : Nat) (tl : Env), n + k = A.length → valB (A.drop k) = valB (A.drop j) → W Tryd.prog (Ret fun u w' => GrTo w w' (match (if (A.drop j).length ≥ a ∨ valB (A.drop j) ≠ 0 then none else some G : Option (List Int)) with | none => ([], 3) | some x => (x, 0)) u) 38 10 ((11, v11) :: (12, v12) :: (13, .int .i64 k) :: tl) wj := by
            intro n
            induction n with
            | zero =>
              intro k tl hk hv
              have hkl : ¬ ((k : Int) < (A.length : Int)) := by omega
              rw [List.drop_of_length_le (by omega)] at hv
              rw [if_neg (fun h => h.elim (fun h => hla (by omega)) (fun h => h hv.symm))]
              (refine W_at c38_ok ?_; refine ⟨_, rfl, ?_⟩; simp (disch := first | omega | assumption | rfl | (simp only [vcS] <;> omega) | fail) only [↓vcA, vcB, ↓reduceIte, Nat.reduceEqDiff, Option.bind_some, hlenA, hkl])
              (refine W_at c38_ok ?_; refine ⟨_, rfl, ?_⟩; simp (disch := first | omega | assumption | rfl | (simp only [vcS] <;> omega) | fail) only [↓vcA, vcB, ↓reduceIte, Nat.reduceEqDiff])
              (refine W_at c38_ok ?_; refine ⟨_, rfl, ?_⟩; simp (disch := first | omega | assumption | rfl | (simp only [vcS] <;> omega) | fail) only [↓vcA, vcB, ↓reduceIte, Nat.reduceEqDiff])
              (refine W_at c38_ok ?_; refine ⟨_, rfl, ?_⟩; simp (disch := first | omega | assumption | rfl | (simp only [vcS] <;> omega) | fail) only [↓vcA, vcB, ↓reduceIte, Nat.reduceEqDiff, Option.bind_some, Option.map_some, Ret_returned])
              exact ⟨_, rfl, hNw⟩
            | succ n ihn =>
              intro k tl hk hv
              have hkl : k < A.length := by omega
              have hkl2 : (k : Int) < (A.length : Int) := by omega
              have h0 : 0 ≤ (k : Int) := by omega
              have wk1 : IntKind.i64.wrap ((k : Int) + 1) = ((k + 1 : Nat) : Int) := wrap_i64 (by omega) (by omega)
              obtain ⟨b0, o, c, hv11, hcell⟩ := cellA wj k hkl (.inr (hA.own.rd.ext hN.ext))
              have hx := bit_at hAb hkl
              rw [List.drop_eq_getElem_cons hkl, valB_cons] at hv
              have hvb := valB_b (bit_drop hAb (k + 1))
              have hp := pow_pos' (A.drop (k + 1)).length
              generalize A[k] = x at *
              (refine W_at c38_ok ?_; refine ⟨_, rfl, ?_⟩; simp (disch := first | omega | assumption | rfl | (simp only [vcS] <;> omega) | fail) only [↓vcA, vcB, ↓reduceIte, Nat.reduceEqDiff, Option.bind_some, hlenA, hkl2])
              (refine W_at c38_ok ?_; refine ⟨_, rfl, ?_⟩; simp (disch := first | omega | assumption | rfl | (simp only [vcS] <;> omega) | fail) only [↓vcA, vcB, ↓reduceIte, Nat.reduceEqDiff])
              by_cases hxz : x = 0
              · have dz : decide (x = 0) = true := decide_eq_true hxz
                subst hv11
                (refine W_at c38_ok ?_; refine ⟨_, rfl, ?_⟩; simp (disch := first | omega | assumption | rfl | (simp only [vcS] <;> omega) | fail) only [↓vcA, vcB, ↓reduceIte, Nat.reduceEqDiff, Option.bind_some, vcM, hkl2, h0, Int.toNat_natCast, Nat.mul_one, hcell, dz])
                (refine W_at c38_ok ?_; refine ⟨_, rfl, ?_⟩; simp (disch := first | omega | assumption | rfl | (simp only [vcS] <;> omega) | fail) only [↓vcA, vcB, ↓reduceIte, Nat.reduceEqDiff])
                (refine W_at c38_ok ?_; refine ⟨_, rfl, ?_⟩; simp (disch := first | omega | assumption | rfl | (simp only [vcS] <;> omega) | fail) only [↓vcA, vcB, ↓reduceIte, Nat.reduceEqDiff, Option.bind_some, wk1])
                (refine W_at c38_ok ?_; refine ⟨_, rfl, ?_⟩; simp (disch := first | omega | assumption | rfl | (simp only [vcS] <;> omega) | fail) only [vcB])
                exact ihn (k + 1) _ (by omega) (by rw [← hv, hxz]; omega)
              · have dz : decide (x = 0) = false := decide_eq_false hxz
                have hx1 : x = 1 := by omega
                rw [hx1] at hv
                rw [if_pos (.inr (by omega))]
                subst hv11
                (refine W_at c38_ok ?_; refine ⟨_, rfl, ?_⟩; simp (disch := first | omega | assumption | rfl | (simp only [vcS] <;> omega) | fail) only [↓vcA, vcB, ↓reduceIte, Nat.reduceEqDiff, Option.bind_some, vcM, hkl2, h0, Int.toNat_natCast, Nat.mul_one, hcell, dz])
                (refine W_at c38_ok ?_; refine ⟨_, rfl, ?_⟩; simp (disch := first | omega | assumption | rfl | (simp only [vcS] <;> omega) | fail) only [↓vcA, vcB, ↓reduceIte, Nat.reduceEqDiff])
                (refine W_at c38_ok ?_; refine ⟨_, rfl, ?_⟩; simp (disch := first | omega | assumption | rfl | (simp only [vcS] <;> omega) | fail) only [↓vcA, vcB, ↓reduceIte, Nat.reduceEqDiff])
                (refine W_at c38_ok ?_; refine ⟨_, rfl, ?_⟩; simp (disch := first | omega | assumption | rfl | (simp only [vcS] <;> omega) | fail) only [↓vcA, vcB, ↓reduceIte, Nat.reduceEqDiff, Option.bind_some, Option.map_some, Ret_returned])
                exact ⟨_, rfl, (New.nil wj).pre (hA.ext.ext hN.ext)⟩
          exact M (A.length - j) j _ (by omega) rfl
    have L : ∀ (m j : Nat) (wj : World) (v12 : Value) (G : List Int) (tl : Env), A.length - j ≤ m → j ≤ A.length → New w1 wj v12 G → G.length ≤ j → groups b A = (G ++ (groups b (A.drop j)).1, (groups b (A.drop j)).2) →
        W Tryd.prog (Ret fun u w' => GrTo w w' (match (match groups b A with
          | (G, R) => if pad then some (G ++ padF b R) else if R.length ≥ a ∨ valB R ≠ 0 then none else some G) with | none => ([], 3) | some x => (x, 0)) u) 38 42 ((1, .int .i64 a) :: (2, .int .i64 b) :: (3, .bool pad) :: (11, v11) :: (12, v12) :: (13, .int .i64 j) :: tl) wj := by
      intro m
      induction m with
      | zero =>
        intro j wj v12 G tl hm hj hN hGl hg
        rw [groups_lt (P := A.drop j) (by rw [List.length_drop]; omega), List.append_nil] at hg
        exact F j wj v12 G tl (by omega) hj hN hGl hg
      | succ m ih =>
        intro j wj v12 G tl hm hj hN hGl hg
        by_cases hjb : A.length < j + b
        · rw [groups_lt (P := A.drop j) (by rw [List.length_drop]; omega), List.append_nil] at hg
          exact F j wj v12 G tl hjb hj hN hGl hg
        have hle : ((j + b : Nat) : Int) ≤ (A.length : Int) := by omega
        have wjb : IntKind.i64.wrap ((j : Int) + (b : Int)) = ((j + b : Nat) : Int) := by rw [wrap_i64 (by omega) (by omega)]; omega
        rw [groups_ge (P := A.drop j) (by omega) (by rw [List.length_drop]; omega), List.drop_drop] at hg
        (refine W_at c38_ok ?_; refine ⟨_, rfl, ?_⟩; simp (disch := first | omega | assumption | rfl | (simp only [vcS] <;> omega) | fail) only [↓vcA, vcB, ↓reduceIte, Nat.reduceEqDiff, Option.bind_some, hlenA, wjb, hle])
        (refine W_at c38_ok ?_; refine ⟨_, rfl, ?_⟩; simp (disch := first | omega | assumption | rfl | (simp only [vcS] <;> omega) | fail) only [↓vcA, vcB, ↓reduceIte, Nat.reduceEqDiff])
        (refine W_at c38_ok ?_; refine ⟨_, rfl, ?_⟩; simp (disch := first | omega | assumption | rfl | (simp only [vcS] <;> omega) | fail) only [↓vcA, vcB, ↓reduceIte, Nat.reduceEqDiff])
        (refine W_at c38_ok ?_; refine ⟨_, rfl, ?_⟩; simp (disch := first | omega | assumption | rfl | (simp only [vcS] <;> omega) | fail) only [↓vcA, vcB, ↓reduceIte, Nat.reduceEqDiff])
        have M : ∀ (n k : Nat) (tl : Env), n + k = b → W Tryd.prog (Ret fun u w' => GrTo w w' (match (match groups b A with
          | (G, R) => if pad then some (G ++ padF b R) else if R.length ≥ a ∨ valB R ≠ 0 then none else some G) with | none => ([], 3) | some x => (x, 0)) u) 38 38 ((1, .int .i64 a) :: (2, .int .i64 b) :: (3, .bool pad) :: (11, v11) :: (12, v12) :: (13, .int .i64 j) :: (14, .int .u8 (valB ((A.drop j).take k))) :: (15, .int .i64 k) :: tl) wj := by
          intro n
          induction n with
          | zero =>
            intro k tl hk
            have hkb : k = b := by omega
            have hlt : ¬ ((k : Int) < (b : Int)) := by omega
            (refine W_at c38_ok ?_; refine ⟨_, rfl, ?_⟩; simp (disch := first | omega | assumption | rfl | (simp only [vcS] <;> omega) | fail) only [↓vcA, vcB, ↓reduceIte, Nat.reduceEqDiff, Option.bind_some, hlt])
            (refine W_at c38_ok ?_; refine ⟨_, rfl, ?_⟩; simp (disch := first | omega | assumption | rfl | (simp only [vcS] <;> omega) | fail) only [↓vcA, vcB, ↓reduceIte, Nat.reduceEqDiff])
            subst hkb
            (refine W_at c38_ok ?_; refine ⟨_, rfl, ?_⟩; simp (disch := first | omega | assumption | rfl | (simp only [vcS] <;> omega) | fail) only [↓ptV_l, ↓vcA, vcB, ↓reduceIte, Nat.reduceEqDiff, Option.bind_some, Option.map_some, List.length_cons, List.length_nil, vcM])
            refine appNL (news := [valB ((A.drop j).take k)]) hN (by simp; omega) fun v1 w2 n1 _ _ => ?_
            first | (simp (disch := first | omega | assumption | rfl | (simp only [vcS] <;> omega) | fail) only [↓ptV_l, ↓vcA, vcB, ↓vcD, vcE, ↓reduceIte, Nat.reduceEqDiff, Nat.reduceAdd, Nat.reduceMul, Nat.reduceLeDiff, Int.reduceLE, Int.reduceLT, Int.reduceEq, Int.reduceToNat, Int.reduceAdd, Int.reduceSub, Int.reduceMul, Int.reduceNeg, reduceCtorEq, Option.bind_some, Option.map_some, List.length_cons, List.length_nil, vcM, List.getElem?_toArray, List.getElem?_cons_zero, List.getElem?_cons_succ]) | skip
            (refine W_at c38_ok ?_; refine ⟨_, rfl, ?_⟩; simp (disch := first | omega | assumption | rfl | (simp only [vcS] <;> omega) | fail) only [↓vcA, vcB, ↓reduceIte, Nat.reduceEqDiff, Option.bind_some, wjb])
            (refine W_at c38_ok ?_; refine ⟨_, rfl, ?_⟩; simp (disch := first | omega | assumption | rfl | (simp only [vcS] <;> omega) | fail) only [vcB])
            exact ih (j + k) w2 v1 (G ++ [valB ((A.drop j).take k)]) _ (by omega) (by omega) n1 (by simp; omega) (by rw [hg]; simp)
          | succ n ihn =>
            intro k tl hk
            have hlt : (k : Int) < (b : Int) := by omega
            have wjk : IntKind.i64.wrap ((j : Int) + (k : Int)) = ((j + k : Nat) : Int) := by rw [wrap_i64 (by omega) (by omega)]; omega
            have wk1 : IntKind.i64.wrap ((k : Int) + 1) = ((k + 1 : Nat) : Int) := wrap_i64 (by omega) (by omega)
            have hjk : j + k < A.length := by omega
            have hjk2 : ((j + k : Nat) : Int) < (A.length : Int) := by omega
            have h0 : 0 ≤ ((j + k : Nat) : Int) := by omega
            obtain ⟨b0, o, c, hv, hcell⟩ := cellA wj (j + k) hjk (.inr (hA.own.rd.ext hN.ext))
            have hb2 := valB_take_b (bit_drop hAb j) k
            have hp7 := pow_le7 (n := k) (by omega)
            have hx := bit_at hAb hjk
            have hsn := drop_snoc hjk
            have hvs : valB ((A.drop j).take (k + 1)) = 2 * valB ((A.drop j).take k) + A[j + k] := by rw [hsn, valB_snoc]
            have ih2 := fun tl => ihn (k + 1) tl (by omega)
            simp only [hvs] at ih2
            generalize valB ((A.drop j).take k) = V at *
            generalize A[j + k] = x at *
            have w2 : IntKind.u8.wrap (V * 2) = 2 * V := by rw [wrap_u8]; omega
            have w3 : IntKind.u8.wrap (2 * V + x) = 2 * V + x := by rw [wrap_u8]; omega
            (refine W_at c38_ok ?_; refine ⟨_, rfl, ?_⟩; simp (disch := first | omega | assumption | rfl | (simp only [vcS] <;> omega) | fail) only [↓vcA, vcB, ↓reduceIte, Nat.reduceEqDiff, Option.bind_some, hlt])
            (refine W_at c38_ok ?_; refine ⟨_, rfl, ?_⟩; simp (disch := first | omega | assumption | rfl | (simp only [vcS] <;> omega) | fail) only [↓vcA, vcB, ↓reduceIte, Nat.reduceEqDiff])
            subst hv
            (refine W_at c38_ok ?_; refine ⟨_, rfl, ?_⟩; simp (disch := first | omega | assumption | rfl | (simp only [vcS] <;> omega) | fail) only [↓vcA, vcB, ↓reduceIte, Nat.reduceEqDiff, Option.bind_some, vcM, wjk, hjk2, h0, Int.toNat_natCast, Nat.mul_one, hcell, w2, w3])
            (refine W_at c38_ok ?_; refine ⟨_, rfl, ?_⟩; simp (disch := first | omega | assumption | rfl | (simp only [vcS] <;> omega) | fail) only [↓vcA, vcB, ↓reduceIte, Nat.reduceEqDiff, Option.bind_some, wk1])
            (refine W_at c38_ok ?_; refine ⟨_, rfl, ?_⟩; simp (disch := first | omega | assumption | rfl | (simp only [vcS] <;> omega) | fail) only [vcB])
            exact ih2 _
        exact M b 0 _ (by omega)
    exact L A.length 0 w1 _ [] _ (by omega) (by omega) (New.nil w1) (by simp) (by simp)
  have L1 : ∀ (k i : Nat) (tl : Env), k + i = bs.length → fits a (bs.take i) →
      W Tryd.prog (Ret fun u w' => GrTo w w' (match regF bs a b pad with | none => ([], 3) | some x => (x, 0)) u) 38 53 ((0, v) :: (1, .int .i64 a) :: (2, .int .i64 b) :: (3, .bool pad) :: (10, .int .i64 i) :: tl) w := by
    intro k
    induction k with
    | zero =>
      intro i tl hi hf
      have hil : ¬ ((i : Int) < (bs.length : Int)) := by omega
      rw [List.take_of_length_le (by omega)] at hf
      (refine W_at c38_ok ?_; refine ⟨_, rfl, ?_⟩; simp (disch := first | omega | assumption | rfl | (simp only [vcS] <;> omega) | fail) only [↓vcA, vcB, ↓reduceIte, Nat.reduceEqDiff, reduceCtorEq, Option.bind_some, hlen, hil])
      (refine W_at c38_ok ?_; refine ⟨_, rfl, ?_⟩; simp (disch := first | omega | assumption | rfl | (simp only [vcS] <;> omega) | fail) only [↓vcA, vcB, ↓reduceIte, Nat.reduceEqDiff, reduceCtorEq])
      exact rest _ hf
    | succ k ih =>
      intro i tl hi hf
      have hilt : i < bs.length := by omega
      have hil : (i : Int) < (bs.length : Int) := by omega
      have h0 : 0 ≤ (i : Int) := by omega
      have hwi : IntKind.i64.wrap ((i : Int) + 1) = ((i + 1 : Nat) : Int) := wrap_i64 (by omega) (by omega)
      have b1 := hb bs[i] (List.getElem_mem _)
      have htake : bs.take (i + 1) = bs.take i ++ [bs[i]] := take_snoc hilt
      obtain ⟨b0, o, c, hv, hcell⟩ := h.at hilt
      have hv' : v = .slice (some ⟨b0, o, none⟩) bs.length c := hv
      (refine W_at c38_ok ?_; refine ⟨_, rfl, ?_⟩; simp (disch := first | omega | assumption | rfl | (simp only [vcS] <;> omega) | fail) only [↓vcA, vcB, ↓reduceIte, Nat.reduceEqDiff, reduceCtorEq, Option.bind_some, hlen, hil])
      (refine W_at c38_ok ?_; refine ⟨_, rfl, ?_⟩; simp (disch := first | omega | assumption | rfl | (simp only [vcS] <;> omega) | fail) only [↓vcA, vcB, ↓reduceIte, Nat.reduceEqDiff, reduceCtorEq])
      have go : ∀ (tl : Env), bs[i] < 2 ^ a → W Tryd.prog (Ret fun u w' => GrTo w w' (match regF bs a b pad with | none => ([], 3) | some x => (x, 0)) u) 38 47 ((0, v) :: (1, .int .i64 a) :: (2, .int .i64 b) :: (3, .bool pad) :: (10, .int .i64 i) :: tl) w := by
        intro tl hv
        (refine W_at c38_ok ?_; refine ⟨_, rfl, ?_⟩; simp (disch := first | omega | assumption | rfl | (simp only [vcS] <;> omega) | fail) only [↓vcA, vcB, ↓reduceIte, Nat.reduceEqDiff, reduceCtorEq, Option.bind_some, hwi])
        (refine W_at c38_ok ?_; refine ⟨_, rfl, ?_⟩; simp (disch := first | omega | assumption | rfl | (simp only [vcS] <;> omega) | fail) only [vcB])
        refine ih (i + 1) _ (by omega) fun y hy => ?_
        rw [htake] at hy
        rcases List.mem_append.1 hy with hy | hy
        · exact hf y hy
        · rw [List.mem_singleton.1 hy]; exact hv
      have wa : IntKind.u64.wrap (a : Int) = (a : Int) := by rw [wrap_u64]; omega
      have h0a : 0 ≤ (a : Int) := by omega
      have m8 := min8 (n := a) ha.2
      by_cases h8 : (a : Int) < 8
      · by_cases hx : bs[i] < 2 ^ a
        · have dz : decide (bs[i] / 2 ^ a = 0) = true := decide_eq_true ((shr_0 b1.1).2 hx)
          generalize hxe : bs[i] = x at *
          subst hv'
          (refine W_at c38_ok ?_; refine ⟨_, rfl, ?_⟩; simp (disch := first | omega | assumption | rfl | (simp only [vcS] <;> omega) | fail) only [↓vcA, vcB, ↓reduceIte, Nat.reduceEqDiff, reduceCtorEq, Option.bind_some, vcM, h8, hil, h0, Int.toNat_natCast, Nat.mul_one, hcell, wa, h0a, m8, fdiv_2, dz])
          (refine W_at c38_ok ?_; refine ⟨_, rfl, ?_⟩; simp (disch := first | omega | assumption | rfl | (simp only [vcS] <;> omega) | fail) only [↓vcA, vcB, ↓reduceIte, Nat.reduceEqDiff, reduceCtorEq])
          exact go _ hx
        · have dz : decide (bs[i] / 2 ^ a = 0) = false := decide_eq_false fun h => hx ((shr_0 b1.1).1 h)
          have hreg : regF bs a b pad = none := by
            unfold regF
            rw [if_neg]
            intro hff
            exact hx (hff _ (List.getElem_mem _))
          rw [hreg]
          generalize hxe : bs[i] = x at *
          subst hv'
          (refine W_at c38_ok ?_; refine ⟨_, rfl, ?_⟩; simp (disch := first | omega | assumption | rfl | (simp only [vcS] <;> omega) | fail) only [↓vcA, vcB, ↓reduceIte, Nat.reduceEqDiff, reduceCtorEq, Option.bind_some, vcM, h8, hil, h0, Int.toNat_natCast, Nat.mul_one, hcell, wa, h0a, m8, fdiv_2, dz])
          (refine W_at c38_ok ?_; refine ⟨_, rfl, ?_⟩; simp (disch := first | omega | assumption | rfl | (simp only [vcS] <;> omega) | fail) only [↓vcA, vcB, ↓reduceIte, Nat.reduceEqDiff, reduceCtorEq])
          (refine W_at c38_ok ?_; refine ⟨_, rfl, ?_⟩; simp (disch := first | omega | assumption | rfl | (simp only [vcS] <;> omega) | fail) only [↓vcA, vcB, ↓reduceIte, Nat.reduceEqDiff])
          (refine W_at c38_ok ?_; refine ⟨_, rfl, ?_⟩; simp (disch := first | omega | assumption | rfl | (simp only [vcS] <;> omega) | fail) only [↓vcA, vcB, ↓reduceIte, Nat.reduceEqDiff, Option.bind_some, Option.map_some, Ret_returned])
          exact ⟨_, rfl, New.nil w⟩
      · have ea : a = 8 := by omega
        have hx : bs[i] < 2 ^ a := by rw [ea]; exact Int.lt_of_le_of_lt b1.2 (by decide)
        (refine W_at c38_ok ?_; refine ⟨_, rfl, ?_⟩; simp (disch := first | omega | assumption | rfl | (simp only [vcS] <;> omega) | fail) only [↓vcA, vcB, ↓reduceIte, Nat.reduceEqDiff, reduceCtorEq, Option.bind_some, h8])
        (refine W_at c38_ok ?_; refine ⟨_, rfl, ?_⟩; simp (disch := first | omega | assumption | rfl | (simp only [vcS] <;> omega) | fail) only [↓vcA, vcB, ↓reduceIte, Nat.reduceEqDiff, reduceCtorEq])
        exact go _ hx
  exact L1 bs.length 0 _ (by omega) (fun x hx => by simp at hx)
end Go.Proofs
namespace Go.Proofs
open Go.Vc
set_option maxRecDepth 10000

theorem groups_len {n : Nat} (hn : 0 < n) : ∀ (k : Nat) (P : List Int), P.length ≤ k → (groups n P).1.length ≤ P.length
  | k, P, hk => by
    by_cases h : n ≤ P.length
    · cases k with
      | zero => omega
      | succ k =>
        have := groups_len hn k (P.drop n) (by rw [List.length_drop]; omega)
        rw [List.length_drop] at this
        rw [groups_ge hn h, List.length_cons]
        omega
    · rw [groups_lt (by omega)]; simp
theorem regF_fine {l : List Int} {a b : Nat} {pad : Bool} (hb : 0 < b) {x : List Int} (h : regF l a b pad = some x) : (∀ v ∈ x, 0 ≤ v ∧ v < 2 ^ b) ∧ x.length ≤ l.length * a + 1 := by
  have hlen := bitsF_len a l
  have h0 := h
  unfold regF at h
  split at h
  · obtain ⟨i1, i2⟩ := bits_groups hb _ (bitsF a l) (Nat.le_refl _) (bitsF_bit a l)
    have hgl := groups_len hb _ (bitsF a l) (Nat.le_refl _)
    rw [hlen] at hgl
    cases pad with
    | true =>
      refine ⟨regF_pad_b hb h0, ?_⟩
      generalize groups b (bitsF a l) = g at *
      obtain ⟨G, R⟩ := g
      simp only [if_true] at h
      obtain rfl := Option.some.inj h
      simp only at hgl
      have : (padF b R).length ≤ 1 := by unfold padF; split <;> simp
      rw [List.length_append]
      omega
    | false =>
      generalize groups b (bitsF a l) = g at *
      obtain ⟨G, R⟩ := g
      simp only [Bool.false_eq_true, if_false] at h hgl i2
      split at h
      · cases h
      · obtain rfl := Option.some.inj h
        exact ⟨i2, by omega⟩
  · cases h
theorem regE_fine (l : List Int) (a b : Int) (pad : Bool) : byt (regE l a b pad).1 ∧ (regE l a b pad).1.length ≤ l.length * 8 + 1 := by
  unfold regE
  split
  · exact ⟨byt_nil, by simp⟩
  · rename_i hn
    cases hr : regF l a.toNat b.toNat pad with
    | none => exact ⟨byt_nil, by simp⟩
    | some x =>
      obtain ⟨h1, h2⟩ := regF_fine (by omega) hr
      refine ⟨fun y hy => ?_, ?_⟩
      · have := h1 y hy
        have := pow_le8 (n := b.toNat) (by omega)
        omega
      · have : l.length * a.toNat ≤ l.length * 8 := Nat.mul_le_mul_left _ (by omega)
        show x.length ≤ _
        omega
end Go.Proofs
namespace Go.Proofs
open Go.Vc
set_option maxRecDepth 10000

def bechG : List (BitVec 64) := [0x3b6a57b2#64, 0x26508e6d#64, 0x1ea119fa#64, 0x3d4233dd#64, 0x2a1462b3#64]
theorem bech_ok (w : World) : Calls Tryd.prog 26 #[] w (Ret fun u w' => u = .agg (codeC 25 bechG) ∧ Ext w w') := by
  refine calls_of_cfg c26_ok (Nat.le_of_ble_eq_true rfl) ?_
  simp only [argE_nil]
  have e : #[Value.int .i64 25] ++ (#[Value.int .u64 996825010] ++ (#[Value.int .u64 642813549] ++ (#[Value.int .u64 513874426] ++ #[Value.int .u64 1027748829, Value.int .u64 705979059])) : Array Value) = codeC 25 bechG := by kernel_rfl
  have h5 : (#[Value.int .u64 996825010] ++ (#[Value.int .u64 642813549] ++ (#[Value.int .u64 513874426] ++ #[Value.int .u64 1027748829, Value.int .u64 705979059])) : Array Value).size = 5 := rfl
  have h6 := codeC_size 25 (g := bechG) rfl
  have hf := codeC_flat 25 bechG
  have hz : (zc [(1, Value.int .i64 0), (5, .int .u64 0)]).size = 6 := by simp [size_zc]
  (refine W_at c26_ok ?_; refine ⟨_, rfl, ?_⟩; simp (disch := first | omega | assumption | rfl | (simp only [vcS] <;> omega) | fail) only [↓ptV_l, ↓vcA, vcB, ↓reduceIte])
  (refine W_at c26_ok ?_; refine ⟨_, rfl, ?_⟩; simp (disch := first | omega | assumption | rfl | (simp only [vcS] <;> omega) | fail) only [↓ptV_l, ↓vcA, vcB, ↓reduceIte, reduceCtorEq, Option.bind_some, Option.map_some, vcM, hz, h5, e, h6])
  refine ⟨hf, ?_⟩
  have hE : Ext w ((w.alloc (.cells (zc [(1, Value.int .i64 0), (5, .int .u64 0)]) 55)).putN w.heap.size 0 (codeC 25 bechG)) := by (repeat' first | exact Keep.refl _ _ | assumption | refine Keep.drew ?_ | refine Keep.alloc ?_ _ | refine Keep.putN ?_ _ ?_ | refine Keep.setCell ?_ _ ?_ | refine Keep.setO ?_ _ ?_ | exact fun _ => Or.inl rfl | exact fun _ => Or.inr rfl | exact fun _ => rfl | (intro hh; exfalso; ((try simp only [vcS] at hh) <;> omega)))
  have hp : ((w.alloc (.cells (zc [(1, Value.int .i64 0), (5, .int .u64 0)]) 55)).putN w.heap.size 0 (codeC 25 bechG)).heap[w.heap.size]? = some (.cells (codeC 25 bechG) 55 (0, 0)) := by
    rw [heap_putN_eq (heap_new _ _ _ rfl), splice_all (by rw [h6, hz])]
  generalize World.putN _ _ _ _ = w1 at hE hp ⊢
  (refine W_at c26_ok ?_; refine ⟨_, rfl, ?_⟩; simp (disch := first | omega | assumption | rfl | (simp only [vcS] <;> omega) | fail) only [↓vcA, vcB, ↓reduceIte, Option.bind_some, Option.map_some, vcM, hp, Ret_returned])
  exact hE
def constB (m : Bool) : BitVec 64 := if m then 0x2bc830a3#64 else 1#64
theorem constant_ok (w : World) (m : Bool) : Calls Tryd.prog 28 #[.bool m] w (Ret fun u w' => u = U64 (constB m) ∧ w' = w) := by
  refine calls_of_cfg c28_ok (Nat.le_of_ble_eq_true rfl) ?_
  simp only [argE_nil, argE_cons, Nat.zero_add]
  have e1 : Value.int .u64 734539939 = U64 (constB true) := rfl
  have e2 : Value.int .u64 1 = U64 (constB false) := rfl
  cases m with
  | true =>
    (refine W_at c28_ok ?_; refine ⟨_, rfl, ?_⟩; simp (disch := first | omega | assumption | rfl | (simp only [vcS] <;> omega) | fail) only [↓vcA, vcB, ↓reduceIte, reduceCtorEq])
    (refine W_at c28_ok ?_; refine ⟨_, rfl, ?_⟩; simp (disch := first | omega | assumption | rfl | (simp only [vcS] <;> omega) | fail) only [↓vcA, vcB, ↓reduceIte])
    (refine W_at c28_ok ?_; refine ⟨_, rfl, ?_⟩; simp (disch := first | omega | assumption | rfl | (simp only [vcS] <;> omega) | fail) only [↓vcA, vcB, ↓reduceIte])
    (refine W_at c28_ok ?_; refine ⟨_, rfl, ?_⟩; simp (disch := first | omega | assumption | rfl | (simp only [vcS] <;> omega) | fail) only [↓vcA, vcB, ↓reduceIte, e1])
    (refine W_at c28_ok ?_; refine ⟨_, rfl, ?_⟩; simp (disch := first | omega | assumption | rfl | (simp only [vcS] <;> omega) | fail) only [↓vcA, vcB, ↓reduceIte, Option.bind_some, Option.map_some, Ret_returned])
    first | rfl | skip
  | false =>
    (refine W_at c28_ok ?_; refine ⟨_, rfl, ?_⟩; simp (disch := first | omega | assumption | rfl | (simp only [vcS] <;> omega) | fail) only [↓vcA, vcB, ↓reduceIte, reduceCtorEq])
    (refine W_at c28_ok ?_; refine ⟨_, rfl, ?_⟩; simp (disch := first | omega | assumption | rfl | (simp only [vcS] <;> omega) | fail) only [↓vcA, vcB, ↓reduceIte])
    (refine W_at c28_ok ?_; refine ⟨_, rfl, ?_⟩; simp (disch := first | omega | assumption | rfl | (simp only [vcS] <;> omega) | fail) only [↓vcA, vcB, ↓reduceIte])
    (refine W_at c28_ok ?_; refine ⟨_, rfl, ?_⟩; simp (disch := first | omega | assumption | rfl | (simp only [vcS] <;> omega) | fail) only [↓vcA, vcB, ↓reduceIte, e2])
    (refine W_at c28_ok ?_; refine ⟨_, rfl, ?_⟩; simp (disch := first | omega | assumption | rfl | (simp only [vcS] <;> omega) | fail) only [↓vcA, vcB, ↓reduceIte, Option.bind_some, Option.map_some, Ret_returned])
    first | rfl | skip
def spreadF (h : List Int) : List Int := h.map (· / 32) ++ 0 :: h.map (· % 32)
theorem hi_b {l : List Int} (h : byt l) : byt (l.map (· / 32)) := fun x hx => by
  obtain ⟨y, hy, rfl⟩ := List.mem_map.1 hx
  have := h y hy; show 0 ≤ y / 32 ∧ y / 32 ≤ 255; omega
theorem lo_b {l : List Int} : byt (l.map (· % 32)) := fun x hx => by
  obtain ⟨y, hy, rfl⟩ := List.mem_map.1 hx
  show 0 ≤ y % 32 ∧ y % 32 ≤ 255; omega
theorem shr5_u8 (x : Int) : x.fdiv (2 ^ Nat.min 5 IntKind.u8.bits) = x / 32 := by
  have e : (2 : Int) ^ Nat.min 5 IntKind.u8.bits = 32 := by decide
  rw [e, Int.fdiv_eq_ediv_of_nonneg _ (by decide)]
theorem and31_u8 {x : Int} (h : 0 ≤ x ∧ x ≤ 255) : IntKind.u8.wrap (((BitVec.ofInt IntKind.u8.bits x &&& BitVec.ofInt IntKind.u8.bits 31).toNat : Nat) : Int) = x % 32 := by
  obtain ⟨n, rfl⟩ : ∃ n : Nat, x = (n : Int) := ⟨x.toNat, by omega⟩
  have hd : ∀ n : Fin 256, IntKind.u8.wrap (((BitVec.ofInt IntKind.u8.bits ((n.val : Nat) : Int) &&& BitVec.ofInt IntKind.u8.bits 31).toNat : Nat) : Int) = ((n.val : Nat) : Int) % 32 := by decide +kernel
  exact hd ⟨n, by omega⟩
theorem lit_rd (w : World) (x : Int) : Rd (w.alloc (.cells (bv [x]).toArray 5)) (.slice (some ⟨w.heap.size, 0, none⟩) 1 1) [x] := (own_lit1 (bs := [x]) (by simp [maxLen])).rd
theorem lit_rd1 (w : World) (o : Obj) (x : Int) : Rd ((w.alloc o).alloc (.cells (bv [x]).toArray 5)) (.slice (some ⟨w.heap.size + 1, 0, none⟩) 1 1) [x] := by
  have h := lit_rd (w.alloc o) x
  have e : (w.alloc o).heap.size = w.heap.size + 1 := Array.size_push ..
  rw [e] at h
  exact h
theorem app_two {w wj w1 : World} {v1 v2 : Value} {A B : List Int} {x y : Int} {p q : Nat} {K : Value → Value → World → Prop} (hV : New w wj v1 A) (hG : New w wj v2 B) (hdis : ∀ g, blk v1 g → ¬ blk v2 g) (hE : Ext wj w1)
    (hp : wj.heap.size ≤ p) (hq : wj.heap.size ≤ q) (ha : Rd w1 (.slice (some ⟨p, 0, none⟩) 1 1) [x]) (hb : Rd w1 (.slice (some ⟨q, 0, none⟩) 1 1) [y]) (l1 : A.length ≤ 100000) (l2 : B.length ≤ 100000)
    (hk : ∀ v3 v4 w3, New w w3 v3 (A ++ [x]) → New w w3 v4 (B ++ [y]) → (∀ g, blk v3 g → ¬ blk v4 g) → K v3 v4 w3) :
    appV 5 1 1 [.int .u8 0] v1 (.slice (some ⟨p, 0, none⟩) 1 1) w1 fun v w' => appV 5 1 1 [.int .u8 0] v2 (.slice (some ⟨q, 0, none⟩) 1 1) w' fun v_1 w' => K v v_1 w' := by
  refine appN (news := [x]) (hV.keep hE) ha (by simp only [List.length_cons, List.length_nil]; omega) fun v3 w3 n3 k3 f3 => ?_
  have hG1 : New w w3 v2 B := ⟨(hG.own.ext hE).keep k3 fun g h1 h2 => hdis g h2 h1, n3.ext, hG.new⟩
  have hb1 : Rd w3 (.slice (some ⟨q, 0, none⟩) 1 1) [y] := hb.keep k3 fun a _ _ e h => by
    cases e
    have := hV.own.lt (g := q) h
    omega
  refine appN (news := [y]) hG1 hb1 (by simp only [List.length_cons, List.length_nil]; omega) fun v4 w4 n4 k4 f4 => ?_
  have hdis1 : ∀ g, blk v3 g → ¬ blk v2 g := fun g h1 h2 => by
    rcases f3 g h1 with h | h
    · exact hdis g h h2
    · have := (hG.own.ext hE).lt h2; omega
  refine hk v3 v4 w4 ⟨n3.own.keep k4 fun g h1 h2 => hdis1 g h1 h2, n4.ext, n3.new⟩ n4 fun g h1 h2 => ?_
  rcases f4 g h2 with h | h
  · exact hdis1 g h1 h
  · have := n3.own.lt h1; omega
theorem spread_ok (w : World) (hs : List Int) (hb : byt hs) (hl : hs.length ≤ 100000) :
    Calls Tryd.prog 24 #[.string (strOf hs)] w (Ret fun u w' => New w w' u (spreadF hs)) := by
  refine calls_of_cfg c24_ok (Nat.le_of_ble_eq_true rfl) ?_
  simp only [argE_nil, argE_cons, Nat.zero_add]
  have hsz := str_size hs
  (refine W_at c24_ok ?_; refine ⟨_, rfl, ?_⟩; simp (disch := first | omega | assumption | rfl | (simp only [vcS] <;> omega) | fail) only [↓vcA, vcB, ↓reduceIte, reduceCtorEq])
  (refine W_at c24_ok ?_; refine ⟨_, rfl, ?_⟩; simp (disch := first | omega | assumption | rfl | (simp only [vcS] <;> omega) | fail) only [↓vcA, vcB, ↓reduceIte, Nat.reduceEqDiff, reduceCtorEq])
  (refine W_at c24_ok ?_; refine ⟨_, rfl, ?_⟩; simp (disch := first | omega | assumption | rfl | (simp only [vcS] <;> omega) | fail) only [↓vcA, vcB, ↓reduceIte, Nat.reduceEqDiff, reduceCtorEq, Option.bind_some, hsz])
  have L : ∀ (k i : Nat) (wj : World) (v1 v2 : Value) (tl : Env), k + i = hs.length → New w wj v1 ((hs.take i).map (· / 32)) → New w wj v2 ((hs.take i).map (· % 32)) → (∀ g, blk v1 g → ¬ blk v2 g) →
      W Tryd.prog (Ret fun u w' => New w w' u (spreadF hs)) 24 8 ((0, .string (strOf hs)) :: (3, v1) :: (4, v2) :: (7, .int .i64 hs.length) :: (8, .int .i64 i) :: tl) wj := by
    intro k
    induction k with
    | zero =>
      intro i wj v1 v2 tl hi hV hG hdis
      have hil : ¬ ((i : Int) < (hs.length : Int)) := by omega
      rw [List.take_of_length_le (by omega)] at hV hG
      (refine W_at c24_ok ?_; refine ⟨_, rfl, ?_⟩; simp (disch := first | omega | assumption | rfl | (simp only [vcS] <;> omega) | fail) only [↓vcA, vcB, ↓reduceIte, Nat.reduceEqDiff, reduceCtorEq, Option.bind_some, hil])
      (refine W_at c24_ok ?_; refine ⟨_, rfl, ?_⟩; simp (disch := first | omega | assumption | rfl | (simp only [vcS] <;> omega) | fail) only [↓vcA, vcB, ↓reduceIte, Nat.reduceEqDiff, reduceCtorEq])
      (refine W_at c24_ok ?_; refine ⟨_, rfl, ?_⟩; simp (disch := first | omega | assumption | rfl | (simp only [vcS] <;> omega) | fail) only [↓ptV_l, ↓vcA, vcB, ↓reduceIte, Nat.reduceEqDiff, reduceCtorEq, Option.bind_some, Option.map_some, List.length_cons, List.length_nil, vcM])
      refine appNL (news := [0]) hV (by simp; omega) fun v' w' n1 k1 f1 => ?_
      have hG1 : New w w' v2 (hs.map (· % 32)) := ⟨hG.own.keep k1 fun g h1 h2 => hdis g h2 h1, n1.ext, hG.new⟩
      first | (simp (disch := first | omega | assumption | rfl | (simp only [vcS] <;> omega) | fail) only [↓ptV_l, ↓vcA, vcB, ↓vcD, vcE, ↓reduceIte, Nat.reduceEqDiff, Nat.reduceAdd, Nat.reduceMul, Nat.reduceLeDiff, Int.reduceLE, Int.reduceLT, Int.reduceEq, Int.reduceToNat, Int.reduceAdd, Int.reduceSub, Int.reduceMul, Int.reduceNeg, reduceCtorEq, Option.bind_some, Option.map_some, List.length_cons, List.length_nil, vcM, List.getElem?_toArray, List.getElem?_cons_zero, List.getElem?_cons_succ]) | skip
      refine appN n1 hG1.own.rd (by simp; omega) fun v3 w3 n3 k3 _ => ?_
      first | (simp (disch := first | omega | assumption | rfl | (simp only [vcS] <;> omega) | fail) only [↓ptV_l, ↓vcA, vcB, ↓vcD, vcE, ↓reduceIte, Nat.reduceEqDiff, Nat.reduceAdd, Nat.reduceMul, Nat.reduceLeDiff, Int.reduceLE, Int.reduceLT, Int.reduceEq, Int.reduceToNat, Int.reduceAdd, Int.reduceSub, Int.reduceMul, Int.reduceNeg, reduceCtorEq, Option.bind_some, Option.map_some, List.length_cons, List.length_nil, vcM, List.getElem?_toArray, List.getElem?_cons_zero, List.getElem?_cons_succ]) | skip
      (refine W_at c24_ok ?_; refine ⟨_, rfl, ?_⟩; simp (disch := first | omega | assumption | rfl | (simp only [vcS] <;> omega) | fail) only [↓vcA, vcB, ↓reduceIte, Option.bind_some, Option.map_some, Ret_returned])
      have e : hs.map (· / 32) ++ [0] ++ hs.map (· % 32) = spreadF hs := by simp [spreadF]
      rw [← e]; exact n3
    | succ k ih =>
      intro i wj v1 v2 tl hi hV hG hdis
      have hil : (i : Int) < (hs.length : Int) := by omega
      have h0 : 0 ≤ (i : Int) := by omega
      have hwi : IntKind.i64.wrap ((i : Int) + 1) = ((i + 1 : Nat) : Int) := wrap_i64 (by omega) (by omega)
      have g1 := str_get (bs := hs) (i := i) (by omega)
      have b1 := hb hs[i] (List.getElem_mem _)
      have u1 := u8i b1
      have t1 : (hs.take (i + 1)).map (· / 32) = (hs.take i).map (· / 32) ++ [hs[i] / 32] := by rw [List.take_succ_eq_append_getElem (by omega), List.map_append]; rfl
      have t2 : (hs.take (i + 1)).map (· % 32) = (hs.take i).map (· % 32) ++ [hs[i] % 32] := by rw [List.take_succ_eq_append_getElem (by omega), List.map_append]; rfl
      have l1 : ((hs.take i).map (· / 32)).length ≤ 100000 := by rw [List.length_map, List.length_take]; omega
      have l2 : ((hs.take i).map (· % 32)).length ≤ 100000 := by rw [List.length_map, List.length_take]; omega
      have hih := ih (i + 1)
      rw [t1, t2] at hih
      clear t1 t2
      (refine W_at c24_ok ?_; refine ⟨_, rfl, ?_⟩; simp (disch := first | omega | assumption | rfl | (simp only [vcS] <;> omega) | fail) only [↓vcA, vcB, ↓reduceIte, Nat.reduceEqDiff, reduceCtorEq, Option.bind_some, hil])
      (refine W_at c24_ok ?_; refine ⟨_, rfl, ?_⟩; simp (disch := first | omega | assumption | rfl | (simp only [vcS] <;> omega) | fail) only [↓vcA, vcB, ↓reduceIte, Nat.reduceEqDiff, reduceCtorEq])
      (refine W_at c24_ok ?_; refine ⟨_, rfl, ?_⟩; simp (disch := first | omega | assumption | rfl | (simp only [vcS] <;> omega) | fail) only [↓vcA, vcB, ↓reduceIte, Nat.reduceEqDiff, reduceCtorEq])
      generalize hs[i] = x at *
      have s5 := shr5_u8 x
      have a31 := and31_u8 b1
      have next : ∀ (w3 : World) (v3 v4 : Value) (tl : Env), New w w3 v3 ((hs.take i).map (· / 32) ++ [x / 32]) → New w w3 v4 ((hs.take i).map (· % 32) ++ [x % 32]) → (∀ g, blk v3 g → ¬ blk v4 g) →
          W Tryd.prog (Ret fun u w' => New w w' u (spreadF hs)) 24 4 ((0, .string (strOf hs)) :: (3, v3) :: (4, v4) :: (7, .int .i64 hs.length) :: (8, .int .i64 i) :: tl) w3 := by
        intro w3 v3 v4 tl h3 h4 hd
        (refine W_at c24_ok ?_; refine ⟨_, rfl, ?_⟩; simp (disch := first | omega | assumption | rfl | (simp only [vcS] <;> omega) | fail) only [↓vcA, vcB, ↓reduceIte, Nat.reduceEqDiff, reduceCtorEq, Option.bind_some, hwi])
        (refine W_at c24_ok ?_; refine ⟨_, rfl, ?_⟩; simp (disch := first | omega | assumption | rfl | (simp only [vcS] <;> omega) | fail) only [vcB])
        exact hih w3 v3 v4 _ (by omega) h3 h4 hd
      (refine W_at c24_ok ?_; refine ⟨_, rfl, ?_⟩; simp (disch := first | omega | assumption | rfl | (simp only [vcS] <;> omega) | fail) only [↓ptV_l, ↓vcA, vcB, ↓reduceIte, Nat.reduceEqDiff, Int.reduceLE, Int.reduceToNat, reduceCtorEq, Option.bind_some, Option.map_some, List.length_cons, List.length_nil, vcM, h0, Int.toNat_natCast, g1, u1, s5, a31])
      have hD : Ext wj wj.drew := (Keep.refl _ wj).drew
      refine ⟨⟨?_, ?_⟩, ?_⟩
      · refine appNL (news := [x / 32]) (hV.keep hD) (by simp only [List.length_cons, List.length_nil]; omega) fun v3 w3 n3 k3 f3 => ?_
        have hG1 : New w w3 v2 ((hs.take i).map (· % 32)) := ⟨(hG.own.ext hD).keep k3 fun g h1 h2 => hdis g h2 h1, n3.ext, hG.new⟩
        have hdis1 : ∀ g, blk v3 g → ¬ blk v2 g := fun g h1 h2 => by
          rcases f3 g h1 with h | h
          · exact hdis g h h2
          · have := (hG.own.ext hD).lt h2; omega
        refine appNL (news := [x % 32]) hG1 (by simp only [List.length_cons, List.length_nil]; omega) fun v4 w4 n4 k4 f4 => ?_
        refine next w4 v3 v4 _ ⟨n3.own.keep k4 fun g h1 h2 => hdis1 g h1 h2, n4.ext, n3.new⟩ n4 fun g h1 h2 => ?_
        rcases f4 g h2 with h | h
        · exact hdis1 g h1 h
        · have := n3.own.lt h1; omega
      · exact app_two hV hG hdis ((hD.alloc _).alloc _) (Nat.le_refl _) (Nat.le_succ _) ((lit_rd wj.drew (x / 32)).ext ((Keep.refl _ _).alloc _)) (lit_rd1 wj.drew _ (x % 32)) l1 l2 fun v3 v4 w3 h1 h2 h3 => next w3 v3 v4 _ h1 h2 h3
      · exact app_two hV hG hdis ((hD.alloc _).alloc _) (Nat.le_succ _) (Nat.le_refl _) (lit_rd1 wj.drew _ (x / 32)) ((lit_rd wj.drew (x % 32)).ext ((Keep.refl _ _).alloc _)) l1 l2 fun v3 v4 w3 h1 h2 h3 => next w3 v3 v4 _ h1 h2 h3
  exact L hs.length 0 w _ _ _ (by omega) (New.nil w) (New.nil w) (fun g h => (by cases h))
end Go.Proofs
namespace Go.Proofs
open Go.Vc
set_option maxRecDepth 10000

/-! ### A step, in parts -/
def maskG : BitVec 64 := (1#64 <<< 25) - 1#64
theorem maskG_nat : maskG.toNat = 2 ^ 25 - 1 := by decide +kernel
theorem and_maskG (d : BitVec 64) : (d &&& maskG).toNat = d.toNat % 2 ^ 25 := by rw [BitVec.toNat_and, maskG_nat, Nat.and_two_pow_sub_one_eq_mod]
theorem shl_maskG (d : BitVec 64) : ((d &&& maskG) <<< 5).toNat = d.toNat % 2 ^ 25 * 32 := by
  rw [BitVec.toNat_shiftLeft, and_maskG, Nat.shiftLeft_eq]
  omega
/-! ### Many steps -/
def rG (c : BitVec 64) (vs : List Int) : BitVec 64 := vs.foldl (stepB 25 bechG) c
def five (vs : List Int) : Prop := ∀ v ∈ vs, 0 ≤ v ∧ v < 32
theorem five_app {a b : List Int} (ha : five a) (hb : five b) : five (a ++ b) := fun v hv => by
  rcases List.mem_append.1 hv with h | h
  · exact ha v h
  · exact hb v h
theorem five_byt {a : List Int} (h : five a) : byt a := fun v hv => by have := h v hv; omega
theorem five_rep (k : Nat) : five (List.replicate k 0) := fun v hv => by rw [(List.mem_replicate.1 hv).2]; omega
/-! ### What is written, and what is read -/
def okH (h : List Int) : Bool := h.all fun c => decide (33 ≤ c) && decide (c ≤ 126) && !(decide (65 ≤ c) && decide (c ≤ 90))
def sumX (h d : List Int) (m : Bool) : BitVec 64 := runB 25 bechG (spreadF h ++ d ++ List.replicate 6 0) ^^^ constB m
def sumL (h d : List Int) (m : Bool) : List Int := lettersF (sumX h d m) 6
def bechF (h d : List Int) (m : Bool) : List Int := h ++ 49 :: (d ++ sumL h d m).map l32F
def bechE (h d : List Int) (m : Bool) : List Int × Int :=
  if 83 < h.length ∨ 90 < h.length + 1 + d.length + 6 then ([], 2)
  else if h = [] ∨ okH h = false ∨ d.any (fun v => decide (31 < v)) = true then ([], 3)
  else (bechF h d m, 0)
def lwF (c : Int) : Int := if 65 ≤ c ∧ c ≤ 90 then c + 32 else c
def upF (c : Int) : Int := if 97 ≤ c ∧ c ≤ 122 then c - 32 else c
def seen (s : List Int) : Bool := s.all fun c => decide (33 ≤ c) && decide (c ≤ 126)
def plainE (s : List Int) : List Int × Bool := if seen s then (s.map lwF, decide (s = s.map lwF) || decide (s = s.map upF)) else ([], false)
def lastF : List Int → Nat → Int
  | [], _ => -1
  | b :: l, k => if 0 ≤ lastF l (k + 1) then lastF l (k + 1) else if b = 49 then (k : Int) else -1
structure Read where
  h : List Int
  d : List Int
  m : Bool
  e : Int
def noRead (e : Int) : Read := ⟨[], [], false, e⟩
def readV (h vs : List Int) : Read :=
  if vs.any (fun v => decide (v < 0)) = true then noRead 3
  else if runB 25 bechG (spreadF h ++ vs) ≠ constB false ∧ runB 25 bechG (spreadF h ++ vs) ≠ constB true then noRead 5
  else ⟨h, vs.take (vs.length - 6), decide (runB 25 bechG (spreadF h ++ vs) = constB true), 0⟩
def valsF (l : List Int) : List Int := l.map fun c => placeF c l32S 0
def fromP (p : List Int × Bool) : Read :=
  if p.2 = false ∨ lastF p.1 0 < 1 ∨ (p.1.length : Int) - lastF p.1 0 - 1 < 6 then noRead 3
  else readV (p.1.take (lastF p.1 0).toNat) (valsF (p.1.drop ((lastF p.1 0).toNat + 1)))
def fromE (s : List Int) : Read := if 90 < s.length then noRead 2 else fromP (plainE s)
end Go.Proofs
namespace Go.Proofs
open Go.Vc
set_option maxRecDepth 10000

def OwnQ (w : World) (v : Value) (bs : List Int) : Prop :=
  ∃ g cap cur fr, v = .slice (some ⟨g, 0, none⟩) bs.length cap ∧ w.heap[g]? = some (.cells cur 5 fr) ∧ (fr = (0, 0) ∨ cap ≤ fr.1) ∧ bs.length ≤ cap ∧ cap ≤ maxLen ∧ cur.size = cap ∧ cur.toList.take bs.length = bv bs
theorem OwnQ.rdS {w : World} {v : Value} {bs : List Int} (h : OwnQ w v bs) : Vc.rdS w 1 v = some (bv bs).toArray := by
  obtain ⟨g, cap, cur, fr, rfl, hg, hfr, hn, hcm, hcs, htake⟩ := h
  simp only [Vc.rdS]
  split
  · rename_i h0
    have : bs = [] := List.eq_nil_of_length_eq_zero h0
    subst this; rfl
  · rw [rdN_heap, hg, rdO_some _ _ _ _ _ (by omega)]
    congr 1
    apply Array.ext'
    simp only [Array.toList_extract, List.extract_eq_take_drop, Nat.zero_add, Nat.mul_one, Nat.sub_zero, List.drop_zero, htake]
theorem OwnQ.rd {w : World} {v : Value} {bs : List Int} (h : OwnQ w v bs) : Rd w v bs := by
  have hr := h.rdS
  obtain ⟨g, cap, cur, fr, rfl, hg, hfr, hn, hcm, hcs, htake⟩ := h
  exact ⟨⟨_, _, rfl, hn⟩, Nat.le_trans hn hcm, hr⟩
theorem OwnQ.lt {w : World} {v : Value} {bs : List Int} (h : OwnQ w v bs) {g : Nat} (hg : blk v g) : g < w.heap.size := by
  obtain ⟨g', cap, cur, fr, rfl, h1, _⟩ := h
  cases hg
  exact lt_of_heap h1
theorem OwnQ.keep {S : Nat → Prop} {w w' : World} {v : Value} {bs : List Int} (h : OwnQ w v bs) (k : Keep S w w') (hS : ∀ g, blk v g → ¬ S g) : OwnQ w' v bs := by
  obtain ⟨g, cap, cur, fr, rfl, hg, r⟩ := h
  exact ⟨g, cap, cur, fr, rfl, k.at hg (hS g rfl), r⟩
theorem OwnQ.ext {w w' : World} {v : Value} {bs : List Int} (h : OwnQ w v bs) (k : Ext w w') : OwnQ w' v bs := h.keep k fun _ _ h => h
theorem appQ {w : World} {v x : Value} {bs news : List Int} {K : Value → World → Prop} (h : OwnQ w v bs) (hx : Rd w x news) (hlen : bs.length + news.length ≤ 1000000000)
    (hk : ∀ v' w', OwnQ w' v' (bs ++ news) → Keep (blk v) w w' → (∀ g, blk v' g → blk v g ∨ w.heap.size ≤ g) → K v' w') : appV 5 1 1 [.int .u8 0] v x w K := by
  have hro := h.rdS
  have hq := h
  obtain ⟨g, cap, cur, fr, rfl, hg, hfr, hn, hcm, hcs, htake⟩ := h
  obtain ⟨⟨q, c, rfl, hc⟩, hm, hr⟩ := hx
  have hml : maxLen = 9223372036854775807 := rfl
  have hl2 : (bs ++ news).length = bs.length + news.length := List.length_append
  have hbl := bv_len bs
  have hnl := bv_len news
  unfold appV
  simp only [hro, hr, getV_some]
  refine ⟨bv_flat news, by omega, by omega, rfl, fun hc => ⟨fun h0 => ?_, fun h0 b o hp => ?_⟩, fun hc h0 => ⟨g, 0, rfl⟩, fun hc c' h1 h2 => ?_⟩
  · have h00 : news = [] := List.eq_nil_of_length_eq_zero (by omega)
    subst h00
    refine hk _ _ ?_ (Keep.refl _ w) fun g hg => .inl hg
    rw [List.append_nil]; exact hq
  · cases hp
    have hput : (w.putN g (0 + bs.length * 1) (bv news).toArray).heap[g]? = some (.cells (spliceA cur (0 + bs.length * 1) (bv news).toArray) 5 fr) := by
      simp only [World.putN, hg]
      exact setRow_heap w g _ _ _ _ hg
    have hsp : (spliceA cur (0 + bs.length * 1) (bv news).toArray).toList = bv bs ++ bv news ++ cur.toList.drop (bs.length + news.length) := by
      simp only [spliceA, Nat.zero_add, Nat.mul_one, List.size_toArray, hnl]
      rw [htake]
    refine ⟨⟨cur, 5, fr, hg, by omega, hfr.imp id fun h => by omega⟩, hk _ _ ⟨g, cap, _, fr, by rw [hl2], hput, hfr, by omega, hcm, ?_, ?_⟩ ⟨by simp only [World.putN, hg]; rfl, by simp only [World.putN, hg]; rfl, by simp only [World.putN, hg]; rfl, by rw [size_putN]; exact Nat.le_refl _, fun k _ hk => heap_putN_ne w g k _ _ (fun e => hk (by rw [e]; rfl))⟩ fun g' hg' => .inl hg'⟩
    · rw [← Array.length_toList, hsp]
      simp only [List.length_append, hbl, hnl, List.length_drop, Array.length_toList, hcs]
      omega
    · rw [hsp, hl2, ← hbl, ← hnl, ← List.length_append, List.take_left, bv_app]
  · refine hk _ _ ⟨w.heap.size, c', _, (0, 0), by rw [hl2], heap_alloc_new w.drew _, .inl rfl, by omega, h2, ?_, ?_⟩ ((Keep.refl _ w).drew.alloc _) (fun g hg => by cases hg; exact .inr (Nat.le_refl _))
    · rw [List.size_toArray, List.length_append, List.length_append, length_zrep]
      simp only [hbl, hnl, List.length_cons, List.length_nil]
      omega
    · show (bv bs ++ bv news ++ _).take _ = _
      rw [hl2, ← hbl, ← hnl, ← List.length_append, List.take_left, bv_app]
/-- The same, behind a literal of bytes. -/
theorem appQL {w : World} {v : Value} {bs news : List Int} {K : Value → World → Prop} (h : OwnQ w v bs) (hlen : bs.length + news.length ≤ 1000000000)
    (hk : ∀ v' w', OwnQ w' v' (bs ++ news) → Keep (blk v) w w' → (∀ g, blk v' g → blk v g ∨ w.heap.size ≤ g) → K v' w') :
    appV 5 1 1 [.int .u8 0] v (.slice (some ⟨w.heap.size, 0, none⟩) news.length news.length) (w.alloc (.cells (bv news).toArray 5)) K := by
  have hE : Ext w (w.alloc (.cells (bv news).toArray 5)) := (Keep.refl _ w).alloc _
  have hml : maxLen = 9223372036854775807 := rfl
  refine appQ (h.ext hE) (own_lit1 (w := w) (bs := news) (by omega)).rd hlen fun v' w' h1 h2 h3 => hk v' w' h1 ((hE.mono fun _ h => h.elim).trans h2 fun _ _ h => h) fun g hg => ?_
  rcases h3 g hg with h4 | h4
  · exact .inl h4
  · exact .inr (Nat.le_trans hE.size h4)
structure NewQ (w w' : World) (u : Value) (bs : List Int) : Prop where
  own : OwnQ w' u bs
  ext : Ext w w'
  new : ∀ g, blk u g → w.heap.size ≤ g
theorem appNQ {w0 w : World} {v : Value} {bs news : List Int} {K : Value → World → Prop} (h : NewQ w0 w v bs) (hlen : bs.length + news.length ≤ 1000000000)
    (hk : ∀ v' w', NewQ w0 w' v' (bs ++ news) → Keep (blk v) w w' → (∀ g, blk v' g → blk v g ∨ w.heap.size ≤ g) → K v' w') :
    appV 5 1 1 [.int .u8 0] v (.slice (some ⟨w.heap.size, 0, none⟩) news.length news.length) (w.alloc (.cells (bv news).toArray 5)) K := by
  refine appQL h.own hlen fun v' w' h1 h2 h3 => hk v' w' ⟨h1, ?_, fun g hg => ?_⟩ h2 h3
  · exact h.ext.trans h2 fun i hi hb => by have := h.new i hb; omega
  · rcases h3 g hg with h4 | h4
    · exact h.new g h4
    · exact Nat.le_trans h.ext.size h4
theorem str_cells {bs : List Int} (h : byt bs) : ((strOf bs).data.map fun b => Value.int .u8 b.toNat) = (bv bs).toArray := by
  apply Array.ext'
  simp only [strOf, Array.toList_map, List.map_map, bv]
  refine List.map_congr_left fun x hx => ?_
  have := u8i (h x hx)
  simp only [Function.comp]
  rw [this]
theorem s2b_ok {w : World} {bs : List Int} {K : Value → World → Prop} (hb : byt bs) (hl : bs.length ≤ 1000000000) (hk : ∀ v w', NewQ w w' v bs → K v w') : s2bV 5 (.string (strOf bs)) w K := by
  have hml : maxLen = 9223372036854775807 := rfl
  simp only [s2bV]
  have hs := str_size bs
  refine ⟨by omega, fun c h1 h2 => hk _ _ ⟨⟨w.heap.size, c, _, (c, c + 1), by rw [hs], heap_alloc_new w.drew _, .inr (Nat.le_refl _), by omega, h2, ?_, ?_⟩, (Keep.refl _ w).drew.alloc _, fun g hg => by cases hg; exact Nat.le_refl _⟩⟩
  · rw [Array.size_append, Array.size_map, Array.size_replicate]
    have : (strOf bs).data.size = (strOf bs).size := rfl
    omega
  · rw [str_cells hb, Array.toList_append]
    show (bv bs ++ _).take _ = _
    rw [← bv_len bs, List.take_left]
end Go.Proofs
namespace Go.Proofs
open Go.Vc
set_option maxRecDepth 10000

def okc (c : Int) : Bool := decide (33 ≤ c) && decide (c ≤ 126) && !(decide (65 ≤ c) && decide (c ≤ 90))
theorem okH_take {h : List Int} {i : Nat} (hi : i < h.length) : okH (h.take (i + 1)) = (okH (h.take i) && okc h[i]) := by
  rw [List.take_succ_eq_append_getElem hi, okH, okH, List.all_append]
  simp [okc]
def bigV (d : List Int) : Bool := d.any fun v => decide (31 < v)
theorem bigV_take {d : List Int} {i : Nat} (hi : i < d.length) : bigV (d.take (i + 1)) = (bigV (d.take i) || decide (31 < d[i])) := by
  rw [List.take_succ_eq_append_getElem hi, bigV, bigV, List.any_append]
  simp
theorem bigV_five {d : List Int} (hb : byt d) (h : bigV d = false) : five d := fun v hv => by
  have h1 := hb v hv
  unfold bigV at h
  rw [List.any_eq_false] at h
  have := h v hv
  simp at this
  omega
def bechR (p : List Int × Int) : Value := .tuple #[.string (strOf p.1), .int .i64 p.2]
/-- The letters, written. -/
theorem bech_write (w0 w : World) (h d : List Int) (m : Bool) (u v : Value) (tl : Env) (hE : Ext w0 w) (hb : byt h) (hd : Rd w v d) (hd5 : five d) (hl : h.length + d.length ≤ 1000) (hu : Rd w u (sumL h d m)) :
    W Tryd.prog (Ret fun x w' => x = bechR (bechF h d m, 0) ∧ Ext w0 w') 10 10 ((0, .string (strOf h)) :: (1, v) :: (13, u) :: tl) w := by
  have hs5 : five (sumL h d m) := fun x hx => by have := letters_b _ _ x hx; omega
  have hsl : (sumL h d m).length = 6 := by simp [sumL, lettersF]
  have hfit := concat_fits (a := h) (b := [49]) (by simp; omega)
  have e49 : (⟨#[49]⟩ : ByteArray) = strOf [49] := by decide +kernel
  have happ := str_app h [49]
  (refine W_at c10_ok ?_; refine ⟨_, rfl, ?_⟩; simp (disch := first | omega | assumption | rfl | (simp only [vcS] <;> omega) | fail) only [↓ptV_l, ↓vcA, vcB, ↓reduceIte, Nat.reduceEqDiff, reduceCtorEq, Option.bind_some, e49, bin_sadd, hfit, happ])
  refine s2b_ok (byt_app hb (byt1 (by omega))) (by simp; omega) fun vo w1 hO => ?_
  first | (simp (disch := first | omega | assumption | rfl | (simp only [vcS] <;> omega) | fail) only [↓ptV_l, ↓vcA, vcB, ↓vcD, vcE, ↓reduceIte, Nat.reduceEqDiff, Nat.reduceAdd, Nat.reduceMul, Nat.reduceLeDiff, Int.reduceLE, Int.reduceLT, Int.reduceEq, Int.reduceToNat, Int.reduceAdd, Int.reduceSub, Int.reduceMul, Int.reduceNeg, reduceCtorEq, Option.bind_some, Option.map_some, List.length_cons, List.length_nil, vcM, List.getElem?_toArray, List.getElem?_cons_zero, List.getElem?_cons_succ]) | skip
  (refine W_at c10_ok ?_; refine ⟨_, rfl, ?_⟩; simp (disch := first | omega | assumption | rfl | (simp only [vcS] <;> omega) | fail) only [↓ptV_l, ↓vcA, vcB, ↓reduceIte, Nat.reduceEqDiff, Option.bind_some, Option.map_some])
  refine callV_ret (sclone_ok w1 v d (hd.ext hO.ext) (by omega)) ?_
  rintro u2 w2 hN
  first | (simp (disch := first | omega | assumption | rfl | (simp only [vcS] <;> omega) | fail) only [↓ptV_l, ↓vcA, vcB, ↓vcD, vcE, ↓reduceIte, Nat.reduceEqDiff, Nat.reduceAdd, Nat.reduceMul, Nat.reduceLeDiff, Int.reduceLE, Int.reduceLT, Int.reduceEq, Int.reduceToNat, Int.reduceAdd, Int.reduceSub, Int.reduceMul, Int.reduceNeg, reduceCtorEq, Option.bind_some, Option.map_some, List.length_cons, List.length_nil, vcM, List.getElem?_toArray, List.getElem?_cons_zero, List.getElem?_cons_succ]) | skip
  refine appN hN ((hu.ext hO.ext).ext hN.ext) (by omega) fun v3 w3 n3 _ _ => ?_
  have hlen := n3.own.rd.len
  have hll : (d ++ sumL h d m).length = d.length + 6 := by rw [List.length_append, hsl]
  have hO3 : NewQ w w3 vo (h ++ [49]) := ⟨hO.own.ext n3.ext, hO.ext.ext n3.ext, hO.new⟩
  have hdis : ∀ g, blk v3 g → ¬ blk vo g := fun g h1 h2 => by have := n3.new g h1; have := hO.own.lt h2; omega
  have hb5 : five (d ++ sumL h d m) := five_app hd5 hs5
  have hF : bechF h d m = h ++ [49] ++ (d ++ sumL h d m).map l32F := by simp [bechF]
  rw [hF]
  have hR := n3.own
  have hprl : (h ++ [49]).length ≤ 1001 := by rw [List.length_append, List.length_cons, List.length_nil]; omega
  have hlsl : (d ++ sumL h d m).length ≤ 1006 := by omega
  generalize d ++ sumL h d m = ls at *
  generalize h ++ [49] = pre at *
  first | (simp (disch := first | omega | assumption | rfl | (simp only [vcS] <;> omega) | fail) only [↓vcA, hlen]) | skip
  have L : ∀ (k i : Nat) (wj : World) (vb : Value) (tl : Env), k + i = ls.length → NewQ w wj vb (pre ++ (ls.take i).map l32F) → Own1 wj v3 ls → (∀ g, blk v3 g → ¬ blk vb g) →
      W Tryd.prog (Ret fun x w' => x = bechR (pre ++ ls.map l32F, 0) ∧ Ext w0 w') 10 8 ((14, vb) :: (93, v3) :: (94, .int .i64 ls.length) :: (95, .int .i64 i) :: tl) wj := by
    intro k
    induction k with
    | zero =>
      intro i wj vb tl hi hB hV hds
      have hil : ¬ ((i : Int) < (ls.length : Int)) := by omega
      rw [List.take_of_length_le (by omega)] at hB
      have hs := hB.own.rd.b2s
      (refine W_at c10_ok ?_; refine ⟨_, rfl, ?_⟩; simp (disch := first | omega | assumption | rfl | (simp only [vcS] <;> omega) | fail) only [↓vcA, vcB, ↓reduceIte, Nat.reduceEqDiff, Option.bind_some, hil])
      (refine W_at c10_ok ?_; refine ⟨_, rfl, ?_⟩; simp (disch := first | omega | assumption | rfl | (simp only [vcS] <;> omega) | fail) only [↓vcA, vcB, ↓reduceIte, Nat.reduceEqDiff])
      (refine W_at c10_ok ?_; refine ⟨_, rfl, ?_⟩; simp (disch := first | omega | assumption | rfl | (simp only [vcS] <;> omega) | fail) only [↓vcA, vcB, ↓reduceIte, Nat.reduceEqDiff, Option.bind_some, hs])
      (refine W_at c10_ok ?_; refine ⟨_, rfl, ?_⟩; simp (disch := first | omega | assumption | rfl | (simp only [vcS] <;> omega) | fail) only [↓vcA, vcB, ↓reduceIte, Nat.reduceEqDiff, Option.bind_some, Option.map_some, Ret_returned])
      exact ⟨rfl, hE.trans hB.ext fun _ _ h => h⟩
    | succ k ih =>
      intro i wj vb tl hi hB hV hds
      have hil : (i : Int) < (ls.length : Int) := by omega
      have hi2 : 0 ≤ (i : Int) ∧ (i : Int) < (ls.length : Int) := by omega
      have hwi : IntKind.i64.wrap ((i : Int) + 1) = ((i + 1 : Nat) : Int) := wrap_i64 (by omega) (by omega)
      obtain ⟨b, o, c, hv3, hcell⟩ := hV.rd.at (i := i) (by omega)
      have hx := hb5 ls[i] (List.getElem_mem _)
      have ht : pre ++ (ls.take (i + 1)).map l32F = pre ++ (ls.take i).map l32F ++ [l32F ls[i]] := by rw [List.take_succ_eq_append_getElem (by omega), List.map_append, List.append_assoc]; rfl
      have hih := ih (i + 1)
      rw [ht] at hih
      clear ht
      have hpl : (pre ++ (ls.take i).map l32F).length ≤ 3000 := by rw [List.length_append, List.length_map, List.length_take]; omega
      subst hv3
      (refine W_at c10_ok ?_; refine ⟨_, rfl, ?_⟩; simp (disch := first | omega | assumption | rfl | (simp only [vcS] <;> omega) | fail) only [↓vcA, vcB, ↓reduceIte, Nat.reduceEqDiff, Option.bind_some, hil])
      (refine W_at c10_ok ?_; refine ⟨_, rfl, ?_⟩; simp (disch := first | omega | assumption | rfl | (simp only [vcS] <;> omega) | fail) only [↓vcA, vcB, ↓reduceIte, Nat.reduceEqDiff])
      generalize ls[i] = x at *
      have g1 := l32_at (x := x) (by omega)
      have u1 := u8i (l32F_b (x := x) (by omega))
      have hx0 := hx.1
      (refine W_at c10_ok ?_; refine ⟨_, rfl, ?_⟩; simp (disch := first | omega | assumption | rfl | (simp only [vcS] <;> omega) | fail) only [↓vcA, vcB, ↓reduceIte, Nat.reduceEqDiff, Option.bind_some, vcM, hi2, hcell, Int.toNat_natCast, Nat.mul_one])
      (refine W_at c10_ok ?_; refine ⟨_, rfl, ?_⟩; simp (disch := first | omega | assumption | rfl | (simp only [vcS] <;> omega) | fail) only [↓ptV_l, ↓vcA, vcB, ↓reduceIte, Nat.reduceEqDiff, Option.bind_some, Option.map_some, List.length_cons, List.length_nil, vcM, l32S_is, hx0, g1, u1])
      refine appNQ (news := [l32F x]) hB (by simp only [List.length_cons, List.length_nil]; omega) fun v' w' n1 k1 f1 => ?_
      have hV2 := hV.keep k1 fun g h1 h2 => hds g h1 h2
      have hds2 : ∀ g, blk (.slice (some ⟨b, o, none⟩) ls.length c) g → ¬ blk v' g := fun g h1 h2 => by
        rcases f1 g h2 with h | h
        · exact hds g h1 h
        · have := hV.lt h1; omega
      (refine W_at c10_ok ?_; refine ⟨_, rfl, ?_⟩; simp (disch := first | omega | assumption | rfl | (simp only [vcS] <;> omega) | fail) only [↓vcA, vcB, ↓reduceIte, Nat.reduceEqDiff, Option.bind_some, hwi])
      (refine W_at c10_ok ?_; refine ⟨_, rfl, ?_⟩; simp (disch := first | omega | assumption | rfl | (simp only [vcS] <;> omega) | fail) only [vcB])
      exact hih w' v' _ (by omega) n1 hV2 hds2
  exact L ls.length 0 w3 vo _ (by omega) (by rw [List.take_zero, List.map_nil, List.append_nil]; exact hO3) hR hdis
end Go.Proofs
namespace Go.Proofs
open Go.Vc
set_option maxRecDepth 10000

/-- The sum, and what is written. -/
theorem bech_sum (w0 w : World) (h d : List Int) (m : Bool) (v : Value) (tl : Env) (hE : Ext w0 w) (hb : byt h) (hd : Rd w v d) (hd5 : five d) (hl : h.length + d.length ≤ 1000) :
    W Tryd.prog (Ret fun x w' => x = bechR (bechF h d m, 0) ∧ Ext w0 w') 10 12 ((0, .string (strOf h)) :: (1, v) :: (2, .bool m) :: tl) w := by
  have hsl : (spreadF h).length = 2 * h.length + 1 := by simp [spreadF]; omega
  have hsb : byt (spreadF h) := byt_app (hi_b hb) fun x hx => by
    rcases List.mem_cons.1 hx with rfl | hx
    · omega
    · exact lo_b x hx
  (refine W_at c10_ok ?_; refine ⟨_, rfl, ?_⟩; simp (disch := first | omega | assumption | rfl | (simp only [vcS] <;> omega) | fail) only [↓ptV_l, ↓vcA, vcB, ↓reduceIte, Nat.reduceEqDiff, reduceCtorEq, Option.bind_some, Option.map_some])
  refine callV_ret (spread_ok w h hb (by omega)) ?_
  rintro u1 w1 hN1
  first | (simp (disch := first | omega | assumption | rfl | (simp only [vcS] <;> omega) | fail) only [↓ptV_l, ↓vcA, vcB, ↓vcD, vcE, ↓reduceIte, Nat.reduceEqDiff, Nat.reduceAdd, Nat.reduceMul, Nat.reduceLeDiff, Int.reduceLE, Int.reduceLT, Int.reduceEq, Int.reduceToNat, Int.reduceAdd, Int.reduceSub, Int.reduceMul, Int.reduceNeg, reduceCtorEq, Option.bind_some, Option.map_some, List.length_cons, List.length_nil, vcM, List.getElem?_toArray, List.getElem?_cons_zero, List.getElem?_cons_succ]) | skip
  refine appN hN1 (hd.ext hN1.ext) (by omega) fun v2 w2 hN2 _ _ => ?_
  first | (simp (disch := first | omega | assumption | rfl | (simp only [vcS] <;> omega) | fail) only [↓ptV_l, ↓vcA, vcB, ↓vcD, vcE, ↓reduceIte, Nat.reduceEqDiff, Nat.reduceAdd, Nat.reduceMul, Nat.reduceLeDiff, Int.reduceLE, Int.reduceLT, Int.reduceEq, Int.reduceToNat, Int.reduceAdd, Int.reduceSub, Int.reduceMul, Int.reduceNeg, reduceCtorEq, Option.bind_some, Option.map_some, List.length_cons, List.length_nil, vcM, List.getElem?_toArray, List.getElem?_cons_zero, List.getElem?_cons_succ]) | skip
  (refine W_at c10_ok ?_; refine ⟨_, rfl, ?_⟩; simp (disch := first | omega | assumption | rfl | (simp only [vcS] <;> omega) | fail) only [↓ptV_l, ↓vcA, vcB, ↓reduceIte, Nat.reduceEqDiff, reduceCtorEq, Option.bind_some, Option.map_some])
  refine callV_ret (bech_ok w2) ?_
  rintro _ w3 ⟨rfl, hE3⟩
  first | (simp (disch := first | omega | assumption | rfl | (simp only [vcS] <;> omega) | fail) only [↓ptV_l, ↓vcA, vcB, ↓vcD, vcE, ↓reduceIte, Nat.reduceEqDiff, Nat.reduceAdd, Nat.reduceMul, Nat.reduceLeDiff, Int.reduceLE, Int.reduceLT, Int.reduceEq, Int.reduceToNat, Int.reduceAdd, Int.reduceSub, Int.reduceMul, Int.reduceNeg, reduceCtorEq, Option.bind_some, Option.map_some, List.length_cons, List.length_nil, vcM, List.getElem?_toArray, List.getElem?_cons_zero, List.getElem?_cons_succ]) | skip
  refine callV_ret (run_ok w3 25 bechG v2 (spreadF h ++ d) 6 (by decide) rfl (hN2.own.rd.ext hE3) (byt_app hsb (five_byt hd5)) (by rw [List.length_append]; omega) (by decide)) ?_
  rintro _ w4 ⟨rfl, hE4⟩
  first | (simp (disch := first | omega | assumption | rfl | (simp only [vcS] <;> omega) | fail) only [↓ptV_l, ↓vcA, vcB, ↓vcD, vcE, ↓reduceIte, Nat.reduceEqDiff, Nat.reduceAdd, Nat.reduceMul, Nat.reduceLeDiff, Int.reduceLE, Int.reduceLT, Int.reduceEq, Int.reduceToNat, Int.reduceAdd, Int.reduceSub, Int.reduceMul, Int.reduceNeg, reduceCtorEq, Option.bind_some, Option.map_some, List.length_cons, List.length_nil, vcM, List.getElem?_toArray, List.getElem?_cons_zero, List.getElem?_cons_succ]) | skip
  refine callV_ret (constant_ok w4 m) ?_
  rintro _ wq ⟨rfl, hw⟩
  obtain rfl : w4 = wq := hw.symm
  first | (simp (disch := first | omega | assumption | rfl | (simp only [vcS] <;> omega) | fail) only [↓vcA, U64_xor]) | skip
  refine callV_ret (letters_ok w4 (sumX h d m) 6 (by decide)) ?_
  rintro u5 w5 hL
  first | (simp (disch := first | omega | assumption | rfl | (simp only [vcS] <;> omega) | fail) only [↓ptV_l, ↓vcA, vcB, ↓vcD, vcE, ↓reduceIte, Nat.reduceEqDiff, Nat.reduceAdd, Nat.reduceMul, Nat.reduceLeDiff, Int.reduceLE, Int.reduceLT, Int.reduceEq, Int.reduceToNat, Int.reduceAdd, Int.reduceSub, Int.reduceMul, Int.reduceNeg, reduceCtorEq, Option.bind_some, Option.map_some, List.length_cons, List.length_nil, vcM, List.getElem?_toArray, List.getElem?_cons_zero, List.getElem?_cons_succ]) | skip
  have hE5 : Ext w w5 := ((hN2.ext.ext hE3).ext hE4).ext hL.ext
  exact bech_write w0 w5 h d m u5 v _ (hE.trans hE5 fun _ _ h => h) hb (hd.ext hE5) hd5 hl hL.own.rd
set_option maxHeartbeats 1000000 in
theorem bech32_ok (w : World) (h d : List Int) (m : Bool) (v : Value) (hb : byt h) (hm : h.length ≤ maxLen) (hd : Rd w v d) (hdb : byt d) (hdl : d.length ≤ 1000000) :
    Calls Tryd.prog 10 #[.string (strOf h), v, .bool m] w (Ret fun x w' => x = bechR (bechE h d m) ∧ Ext w w') := by
  refine calls_of_cfg c10_ok (Nat.le_of_ble_eq_true rfl) ?_
  simp only [argE_nil, argE_cons, Nat.reduceAdd, Nat.zero_add]
  have hsz := str_size h
  have hlen := hd.len
  have hml : maxLen = 9223372036854775807 := rfl
  have size : 83 < h.length ∨ 90 < h.length + 1 + d.length + 6 → ∀ tl, W Tryd.prog (Ret fun x w' => x = bechR (bechE h d m) ∧ Ext w w') 10 34 ((0, .string (strOf h)) :: (1, v) :: (2, .bool m) :: (29, .bool true) :: tl) w := fun hc tl => by
    rw [bechE, if_pos hc]
    (refine W_at c10_ok ?_; refine ⟨_, rfl, ?_⟩; simp (disch := first | omega | assumption | rfl | (simp only [vcS] <;> omega) | fail) only [↓vcA, vcB, ↓reduceIte, Nat.reduceEqDiff, reduceCtorEq])
    (refine W_at c10_ok ?_; refine ⟨_, rfl, ?_⟩; simp (disch := first | omega | assumption | rfl | (simp only [vcS] <;> omega) | fail) only [↓vcA, vcB, ↓reduceIte, Nat.reduceEqDiff])
    (refine W_at c10_ok ?_; refine ⟨_, rfl, ?_⟩; simp (disch := first | omega | assumption | rfl | (simp only [vcS] <;> omega) | fail) only [↓vcA, vcB, ↓reduceIte, Nat.reduceEqDiff, Option.bind_some, Option.map_some, Ret_returned])
    exact ⟨rfl, Keep.refl _ w⟩
  (refine W_at c10_ok ?_; refine ⟨_, rfl, ?_⟩; simp (disch := first | omega | assumption | rfl | (simp only [vcS] <;> omega) | fail) only [↓vcA, vcB, ↓reduceIte, Nat.reduceEqDiff, reduceCtorEq])
  by_cases c1 : 83 < h.length
  · have k1 : (83 : Int) < (h.length : Int) := by omega
    (refine W_at c10_ok ?_; refine ⟨_, rfl, ?_⟩; simp (disch := first | omega | assumption | rfl | (simp only [vcS] <;> omega) | fail) only [↓vcA, vcB, ↓reduceIte, Nat.reduceEqDiff, reduceCtorEq, Option.bind_some, hsz, k1])
    exact size (.inl c1) _
  have k1 : ¬ (83 : Int) < (h.length : Int) := by omega
  have a1 : IntKind.i64.wrap ((h.length : Int) + 1) = ((h.length + 1 : Nat) : Int) := wrap_i64 (by omega) (by omega)
  have a2 : IntKind.i64.wrap (((h.length + 1 : Nat) : Int) + (d.length : Int)) = ((h.length + 1 + d.length : Nat) : Int) := by rw [wrap_i64 (by omega) (by omega)]; omega
  have a3 : IntKind.i64.wrap (((h.length + 1 + d.length : Nat) : Int) + 6) = ((h.length + 1 + d.length + 6 : Nat) : Int) := by rw [wrap_i64 (by omega) (by omega)]; omega
  by_cases c2 : 90 < h.length + 1 + d.length + 6
  · have k2 : (90 : Int) < ((h.length + 1 + d.length + 6 : Nat) : Int) := by omega
    (refine W_at c10_ok ?_; refine ⟨_, rfl, ?_⟩; simp (disch := first | omega | assumption | rfl | (simp only [vcS] <;> omega) | fail) only [↓vcA, vcB, ↓reduceIte, Nat.reduceEqDiff, reduceCtorEq, Option.bind_some, hsz, k1, hlen, a1, a2, a3, k2])
    exact size (.inr c2) _
  have k2 : ¬ (90 : Int) < ((h.length + 1 + d.length + 6 : Nat) : Int) := by omega
  have hno : ¬ (83 < h.length ∨ 90 < h.length + 1 + d.length + 6) := by omega
  clear size
  -- behind the loops
  have fin : ∀ (b : Bool) (tl : Env), b = (decide (h = []) || !okH h || bigV d) → W Tryd.prog (Ret fun x w' => x = bechR (bechE h d m) ∧ Ext w w') 10 16 ((0, .string (strOf h)) :: (1, v) :: (2, .bool m) :: (8, .bool b) :: tl) w := fun b tl hbb => by
    rw [bechE, if_neg hno]
    cases b with
    | true =>
      rw [if_pos (by
        have := hbb.symm
        rw [Bool.or_eq_true, Bool.or_eq_true] at this
        rcases this with (h1 | h1) | h1
        · exact .inl (of_decide_eq_true h1)
        · exact .inr (.inl (by simpa using h1))
        · exact .inr (.inr h1))]
      (refine W_at c10_ok ?_; refine ⟨_, rfl, ?_⟩; simp (disch := first | omega | assumption | rfl | (simp only [vcS] <;> omega) | fail) only [↓vcA, vcB, ↓reduceIte, Nat.reduceEqDiff, reduceCtorEq])
      (refine W_at c10_ok ?_; refine ⟨_, rfl, ?_⟩; simp (disch := first | omega | assumption | rfl | (simp only [vcS] <;> omega) | fail) only [↓vcA, vcB, ↓reduceIte, Nat.reduceEqDiff, reduceCtorEq])
      (refine W_at c10_ok ?_; refine ⟨_, rfl, ?_⟩; simp (disch := first | omega | assumption | rfl | (simp only [vcS] <;> omega) | fail) only [↓vcA, vcB, ↓reduceIte, Nat.reduceEqDiff])
      (refine W_at c10_ok ?_; refine ⟨_, rfl, ?_⟩; simp (disch := first | omega | assumption | rfl | (simp only [vcS] <;> omega) | fail) only [↓vcA, vcB, ↓reduceIte, Nat.reduceEqDiff, Option.bind_some, Option.map_some, Ret_returned])
      exact ⟨rfl, Keep.refl _ w⟩
    | false =>
      have h3 := hbb.symm
      rw [Bool.or_eq_false_iff, Bool.or_eq_false_iff] at h3
      obtain ⟨⟨h1, h2⟩, h3⟩ := h3
      rw [if_neg (by
        rintro (h | h | h)
        · exact of_decide_eq_false h1 h
        · rw [h] at h2; cases h2
        · unfold bigV at h3; rw [h] at h3; cases h3)]
      (refine W_at c10_ok ?_; refine ⟨_, rfl, ?_⟩; simp (disch := first | omega | assumption | rfl | (simp only [vcS] <;> omega) | fail) only [↓vcA, vcB, ↓reduceIte, Nat.reduceEqDiff, reduceCtorEq])
      (refine W_at c10_ok ?_; refine ⟨_, rfl, ?_⟩; simp (disch := first | omega | assumption | rfl | (simp only [vcS] <;> omega) | fail) only [↓vcA, vcB, ↓reduceIte, Nat.reduceEqDiff, reduceCtorEq])
      exact bech_sum w w h d m v _ (Keep.refl _ w) hb hd (bigV_five hdb h3) (by omega)
  -- the values
  have L2 : ∀ (k i : Nat) (b : Bool) (tl : Env), k + i = d.length → b = (decide (h = []) || !okH h || bigV (d.take i)) →
      W Tryd.prog (Ret fun x w' => x = bechR (bechE h d m) ∧ Ext w w') 10 22 ((0, .string (strOf h)) :: (1, v) :: (2, .bool m) :: (8, .bool b) :: (63, v) :: (64, .int .i64 d.length) :: (65, .int .i64 i) :: tl) w := by
    intro k
    induction k with
    | zero =>
      intro i b tl hi hbb
      have hil : ¬ ((i : Int) < (d.length : Int)) := by omega
      rw [List.take_of_length_le (by omega)] at hbb
      (refine W_at c10_ok ?_; refine ⟨_, rfl, ?_⟩; simp (disch := first | omega | assumption | rfl | (simp only [vcS] <;> omega) | fail) only [↓vcA, vcB, ↓reduceIte, Nat.reduceEqDiff, reduceCtorEq, Option.bind_some, hil])
      (refine W_at c10_ok ?_; refine ⟨_, rfl, ?_⟩; simp (disch := first | omega | assumption | rfl | (simp only [vcS] <;> omega) | fail) only [↓vcA, vcB, ↓reduceIte, Nat.reduceEqDiff, reduceCtorEq])
      exact fin b _ hbb
    | succ k ih =>
      intro i b tl hi hbb
      have hil : (i : Int) < (d.length : Int) := by omega
      have hi2 : 0 ≤ (i : Int) ∧ (i : Int) < (d.length : Int) := by omega
      have hwi : IntKind.i64.wrap ((i : Int) + 1) = ((i + 1 : Nat) : Int) := wrap_i64 (by omega) (by omega)
      obtain ⟨g, o, c, hv3, hcell⟩ := hd.at (i := i) (by omega)
      have hih := ih (i + 1)
      rw [bigV_take (by omega)] at hih
      have hg : ∀ (b2 : Bool) (tl : Env), b2 = (b || decide (31 < d[i])) → W Tryd.prog (Ret fun x w' => x = bechR (bechE h d m) ∧ Ext w w') 10 18 ((0, .string (strOf h)) :: (1, v) :: (2, .bool m) :: (8, .bool b2) :: (63, v) :: (64, .int .i64 d.length) :: (65, .int .i64 i) :: tl) w := fun b2 tl hb2 => by
        (refine W_at c10_ok ?_; refine ⟨_, rfl, ?_⟩; simp (disch := first | omega | assumption | rfl | (simp only [vcS] <;> omega) | fail) only [↓vcA, vcB, ↓reduceIte, Nat.reduceEqDiff, reduceCtorEq, Option.bind_some, hwi])
        (refine W_at c10_ok ?_; refine ⟨_, rfl, ?_⟩; simp (disch := first | omega | assumption | rfl | (simp only [vcS] <;> omega) | fail) only [vcB])
        exact hih b2 _ (by omega) (by rw [hb2, hbb, Bool.or_assoc])
      clear hih
      subst hv3
      generalize d[i] = x at *
      (refine W_at c10_ok ?_; refine ⟨_, rfl, ?_⟩; simp (disch := first | omega | assumption | rfl | (simp only [vcS] <;> omega) | fail) only [↓vcA, vcB, ↓reduceIte, Nat.reduceEqDiff, reduceCtorEq, Option.bind_some, hil])
      (refine W_at c10_ok ?_; refine ⟨_, rfl, ?_⟩; simp (disch := first | omega | assumption | rfl | (simp only [vcS] <;> omega) | fail) only [↓vcA, vcB, ↓reduceIte, Nat.reduceEqDiff, reduceCtorEq])
      (refine W_at c10_ok ?_; refine ⟨_, rfl, ?_⟩; simp (disch := first | omega | assumption | rfl | (simp only [vcS] <;> omega) | fail) only [↓vcA, vcB, ↓reduceIte, Nat.reduceEqDiff, reduceCtorEq, Option.bind_some, vcM, hi2, hcell, Int.toNat_natCast, Nat.mul_one])
      cases b with
      | true =>
        (refine W_at c10_ok ?_; refine ⟨_, rfl, ?_⟩; simp (disch := first | omega | assumption | rfl | (simp only [vcS] <;> omega) | fail) only [↓vcA, vcB, ↓reduceIte, Nat.reduceEqDiff, reduceCtorEq, Option.bind_some])
        exact hg true _ rfl
      | false =>
        by_cases hx : 31 < x
        · (refine W_at c10_ok ?_; refine ⟨_, rfl, ?_⟩; simp (disch := first | omega | assumption | rfl | (simp only [vcS] <;> omega) | fail) only [↓vcA, vcB, ↓reduceIte, Nat.reduceEqDiff, reduceCtorEq, Option.bind_some, hx])
          exact hg true _ (by rw [decide_eq_true hx]; rfl)
        · (refine W_at c10_ok ?_; refine ⟨_, rfl, ?_⟩; simp (disch := first | omega | assumption | rfl | (simp only [vcS] <;> omega) | fail) only [↓vcA, vcB, ↓reduceIte, Nat.reduceEqDiff, reduceCtorEq, Option.bind_some, hx])
          exact hg false _ (by rw [decide_eq_false hx]; rfl)
  -- the part for people
  have L1 : ∀ (k i : Nat) (b : Bool) (tl : Env), k + i = h.length → b = (decide (h = []) || !okH (h.take i)) →
      W Tryd.prog (Ret fun x w' => x = bechR (bechE h d m) ∧ Ext w w') 10 29 ((0, .string (strOf h)) :: (1, v) :: (2, .bool m) :: (8, .bool b) :: (33, .int .i64 h.length) :: (34, .int .i64 i) :: tl) w := by
    intro k
    induction k with
    | zero =>
      intro i b tl hi hbb
      have hil : ¬ ((i : Int) < (h.length : Int)) := by omega
      rw [List.take_of_length_le (by omega)] at hbb
      (refine W_at c10_ok ?_; refine ⟨_, rfl, ?_⟩; simp (disch := first | omega | assumption | rfl | (simp only [vcS] <;> omega) | fail) only [↓vcA, vcB, ↓reduceIte, Nat.reduceEqDiff, reduceCtorEq, Option.bind_some, hil])
      (refine W_at c10_ok ?_; refine ⟨_, rfl, ?_⟩; simp (disch := first | omega | assumption | rfl | (simp only [vcS] <;> omega) | fail) only [↓vcA, vcB, ↓reduceIte, Nat.reduceEqDiff, reduceCtorEq])
      (refine W_at c10_ok ?_; refine ⟨_, rfl, ?_⟩; simp (disch := first | omega | assumption | rfl | (simp only [vcS] <;> omega) | fail) only [↓vcA, vcB, ↓reduceIte, Nat.reduceEqDiff, reduceCtorEq, Option.bind_some, hlen])
      exact L2 d.length 0 b _ (by omega) (by rw [List.take_zero]; simp [bigV, hbb])
    | succ k ih =>
      intro i b tl hi hbb
      have hil : (i : Int) < (h.length : Int) := by omega
      have h0 : 0 ≤ (i : Int) := by omega
      have hwi : IntKind.i64.wrap ((i : Int) + 1) = ((i + 1 : Nat) : Int) := wrap_i64 (by omega) (by omega)
      have g1 := str_get (bs := h) (i := i) (by omega)
      have u1 := u8i (hb h[i] (List.getElem_mem _))
      have hih := ih (i + 1)
      rw [okH_take (by omega)] at hih
      have hg : ∀ (b2 : Bool) (tl : Env), b2 = (b || !okc h[i]) → W Tryd.prog (Ret fun x w' => x = bechR (bechE h d m) ∧ Ext w w') 10 25 ((0, .string (strOf h)) :: (1, v) :: (2, .bool m) :: (8, .bool b2) :: (33, .int .i64 h.length) :: (34, .int .i64 i) :: tl) w := fun b2 tl hb2 => by
        (refine W_at c10_ok ?_; refine ⟨_, rfl, ?_⟩; simp (disch := first | omega | assumption | rfl | (simp only [vcS] <;> omega) | fail) only [↓vcA, vcB, ↓reduceIte, Nat.reduceEqDiff, reduceCtorEq, Option.bind_some, hwi])
        (refine W_at c10_ok ?_; refine ⟨_, rfl, ?_⟩; simp (disch := first | omega | assumption | rfl | (simp only [vcS] <;> omega) | fail) only [vcB])
        exact hih b2 _ (by omega) (by rw [hb2, hbb]; cases decide (h = []) <;> cases okH (h.take i) <;> cases okc h[i] <;> rfl)
      clear hih
      generalize h[i] = x at *
      (refine W_at c10_ok ?_; refine ⟨_, rfl, ?_⟩; simp (disch := first | omega | assumption | rfl | (simp only [vcS] <;> omega) | fail) only [↓vcA, vcB, ↓reduceIte, Nat.reduceEqDiff, reduceCtorEq, Option.bind_some, hil])
      (refine W_at c10_ok ?_; refine ⟨_, rfl, ?_⟩; simp (disch := first | omega | assumption | rfl | (simp only [vcS] <;> omega) | fail) only [↓vcA, vcB, ↓reduceIte, Nat.reduceEqDiff, reduceCtorEq])
      (refine W_at c10_ok ?_; refine ⟨_, rfl, ?_⟩; simp (disch := first | omega | assumption | rfl | (simp only [vcS] <;> omega) | fail) only [↓vcA, vcB, ↓reduceIte, Nat.reduceEqDiff, reduceCtorEq])
      cases b with
      | true =>
        (refine W_at c10_ok ?_; refine ⟨_, rfl, ?_⟩; simp (disch := first | omega | assumption | rfl | (simp only [vcS] <;> omega) | fail) only [↓vcA, vcB, ↓reduceIte, Nat.reduceEqDiff, reduceCtorEq, Option.bind_some])
        exact hg true _ rfl
      | false =>
        by_cases x1 : x < 33
        · (refine W_at c10_ok ?_; refine ⟨_, rfl, ?_⟩; simp (disch := first | omega | assumption | rfl | (simp only [vcS] <;> omega) | fail) only [↓vcA, vcB, ↓reduceIte, Nat.reduceEqDiff, reduceCtorEq, Option.bind_some, Option.map_some, h0, Int.toNat_natCast, g1, u1, x1])
          exact hg true _ (by simp [okc]; omega)
        by_cases x2 : 126 < x
        · (refine W_at c10_ok ?_; refine ⟨_, rfl, ?_⟩; simp (disch := first | omega | assumption | rfl | (simp only [vcS] <;> omega) | fail) only [↓vcA, vcB, ↓reduceIte, Nat.reduceEqDiff, reduceCtorEq, Option.bind_some, Option.map_some, h0, Int.toNat_natCast, g1, u1, x1, x2])
          exact hg true _ (by simp [okc]; omega)
        by_cases x3 : 65 ≤ x
        · by_cases x4 : x ≤ 90
          · (refine W_at c10_ok ?_; refine ⟨_, rfl, ?_⟩; simp (disch := first | omega | assumption | rfl | (simp only [vcS] <;> omega) | fail) only [↓vcA, vcB, ↓reduceIte, Nat.reduceEqDiff, reduceCtorEq, Option.bind_some, Option.map_some, h0, Int.toNat_natCast, g1, u1, x1, x2, x3, x4])
            exact hg true _ (by simp [okc]; omega)
          · (refine W_at c10_ok ?_; refine ⟨_, rfl, ?_⟩; simp (disch := first | omega | assumption | rfl | (simp only [vcS] <;> omega) | fail) only [↓vcA, vcB, ↓reduceIte, Nat.reduceEqDiff, reduceCtorEq, Option.bind_some, Option.map_some, h0, Int.toNat_natCast, g1, u1, x1, x2, x3, x4])
            exact hg false _ (by simp [okc]; omega)
        · (refine W_at c10_ok ?_; refine ⟨_, rfl, ?_⟩; simp (disch := first | omega | assumption | rfl | (simp only [vcS] <;> omega) | fail) only [↓vcA, vcB, ↓reduceIte, Nat.reduceEqDiff, reduceCtorEq, Option.bind_some, Option.map_some, h0, Int.toNat_natCast, g1, u1, x1, x2, x3])
          exact hg false _ (by simp [okc]; omega)
  have start : ∀ b, b = decide (h = []) → ∀ tl, W Tryd.prog (Ret fun x w' => x = bechR (bechE h d m) ∧ Ext w w') 10 30 ((0, .string (strOf h)) :: (1, v) :: (2, .bool m) :: (8, .bool b) :: tl) w := fun b hbb tl => by
    (refine W_at c10_ok ?_; refine ⟨_, rfl, ?_⟩; simp (disch := first | omega | assumption | rfl | (simp only [vcS] <;> omega) | fail) only [↓vcA, vcB, ↓reduceIte, Nat.reduceEqDiff, reduceCtorEq, Option.bind_some, hsz])
    exact L1 h.length 0 b _ (by omega) (by rw [List.take_zero]; simp [okH, hbb])
  (refine W_at c10_ok ?_; refine ⟨_, rfl, ?_⟩; simp (disch := first | omega | assumption | rfl | (simp only [vcS] <;> omega) | fail) only [↓vcA, vcB, ↓reduceIte, Nat.reduceEqDiff, reduceCtorEq, Option.bind_some, hsz, k1, hlen, a1, a2, a3, k2])
  (refine W_at c10_ok ?_; refine ⟨_, rfl, ?_⟩; simp (disch := first | omega | assumption | rfl | (simp only [vcS] <;> omega) | fail) only [↓vcA, vcB, ↓reduceIte, Nat.reduceEqDiff, reduceCtorEq])
  have hnil : decide (strOf h = ⟨#[]⟩) = decide (h = []) := by
    have e : (⟨#[]⟩ : ByteArray) = strOf [] := rfl
    rw [e]
    exact decide_eq_decide.2 (strOf_inj hb byt_nil)
  (refine W_at c10_ok ?_; refine ⟨_, rfl, ?_⟩; simp (disch := first | omega | assumption | rfl | (simp only [vcS] <;> omega) | fail) only [↓vcA, vcB, ↓reduceIte, Nat.reduceEqDiff, reduceCtorEq, Option.bind_some, hnil])
  exact start _ rfl _
end Go.Proofs
namespace Go.Proofs
open Go.Shelf
def Tryd.lays158_ren : Go.Shelf.Ren := ⟨fun | 158 => 49 | 165 => 58 | 166 => 59 | 167 => 45 | 169 => 46 | 230 => 60 | 203 => 62 | 240 => 57 | 241 => 67 | 197 => 68 | 118 => 69 | 168 => 70 | 270 => 71 | 262 => 72 | 276 => 66 | 277 => 54 | 260 => 73 | 242 => 74 | 313 => 75 | 278 => 76 | 274 => 77 | 275 => 78 | n => n, fun | 9 => 9 | 4 => 4 | 3 => 3 | 5 => 5 | 72 => 75 | 0 => 0 | 76 => 89 | 75 => 77 | 107 => 92 | 70 => 73 | 20 => 20 | 37 => 22 | 127 => 87 | 21 => 21 | 105 => 100 | 164 => 98 | 162 => 109 | 203 => 107 | 119 => 110 | 46 => 60 | 139 => 113 | 138 => 112 | 51 => 93 | 160 => 114 | 208 => 120 | 206 => 118 | 80 => 79 | n => n, fun | 13 => 1 | 3 => 2 | 4 => 3 | n => n⟩
theorem Tryd.lays158 : Go.Proofs.Lays.n158 Tryd.prog Tryd.lays158_ren := {
  mixed := by kernel_rfl
  f118 := Tryd.func69.trans (congrArg some (by kernel_rfl))
  f158 := Tryd.func49.trans (congrArg some (by kernel_rfl))
  f165 := Tryd.func58.trans (congrArg some (by kernel_rfl))
  f166 := Tryd.func59.trans (congrArg some (by kernel_rfl))
  f167 := Tryd.func45.trans (congrArg some (by kernel_rfl))
  f168 := Tryd.func70.trans (congrArg some (by kernel_rfl))
  f169 := Tryd.func46.trans (congrArg some (by kernel_rfl))
  f197 := Tryd.func68.trans (congrArg some (by kernel_rfl))
  f203 := Tryd.func62.trans (congrArg some (by kernel_rfl))
  f230 := Tryd.func60.trans (congrArg some (by kernel_rfl))
  f240 := Tryd.func57.trans (congrArg some (by kernel_rfl))
  f241 := Tryd.func67.trans (congrArg some (by kernel_rfl))
  f242 := Tryd.func74.trans (congrArg some (by kernel_rfl))
  f260 := Tryd.func73.trans (congrArg some (by kernel_rfl))
  f262 := Tryd.func72.trans (congrArg some (by kernel_rfl))
  f270 := Tryd.func71.trans (congrArg some (by kernel_rfl))
  f274 := Tryd.func77.trans (congrArg some (by kernel_rfl))
  f275 := Tryd.func78.trans (congrArg some (by kernel_rfl))
  f276 := Tryd.func66.trans (congrArg some (by kernel_rfl))
  f277 := Tryd.func54.trans (congrArg some (by kernel_rfl))
  f278 := Tryd.func76.trans (congrArg some (by kernel_rfl))
  f313 := Tryd.func75.trans (congrArg some (by kernel_rfl))
  t0 := Tryd.underlying0
  a0 := Tryd.isAgg0
  z0 := Tryd.sizeOf0
  v0 := Tryd.zeroValue0
  t3 := Tryd.underlying3
  a3 := Tryd.isAgg3
  z3 := Tryd.sizeOf3
  v3 := Tryd.zeroValue3
  t4 := Tryd.underlying4
  a4 := Tryd.isAgg4
  z4 := Tryd.sizeOf4
  v4 := Tryd.zeroValue4
  t5 := Tryd.underlying5
  a5 := Tryd.isAgg5
  z5 := Tryd.sizeOf5
  v5 := Tryd.zeroValue5
  t9 := Tryd.underlying9
  a9 := Tryd.isAgg9
  z9 := Tryd.sizeOf9
  v9 := Tryd.zeroValue9
  t20 := Tryd.underlying20
  a20 := Tryd.isAgg20
  z20 := Tryd.sizeOf20
  v20 := Tryd.zeroValue20
  t21 := Tryd.underlying21
  a21 := Tryd.isAgg21
  z21 := Tryd.sizeOf21
  v21 := Tryd.zeroValue21
  t37 := Tryd.underlying22
  a37 := Tryd.isAgg22
  z37 := Tryd.sizeOf22
  v37 := Tryd.zeroValue22
  t46 := Tryd.underlying60
  a46 := Tryd.isAgg60
  z46 := Tryd.sizeOf60
  v46 := Tryd.zeroValue60
  t51 := Tryd.underlying93
  a51 := Tryd.isAgg93
  z51 := Tryd.sizeOf93
  v51 := Tryd.zeroValue93
  t70 := Tryd.underlying73
  a70 := Tryd.isAgg73
  z70 := Tryd.sizeOf73
  v70 := Tryd.zeroValue73
  t72 := Tryd.underlying75
  a72 := Tryd.isAgg75
  z72 := Tryd.sizeOf75
  v72 := Tryd.zeroValue75
  t75 := Tryd.underlying77
  a75 := Tryd.isAgg77
  z75 := Tryd.sizeOf77
  v75 := Tryd.zeroValue77
  t76 := Tryd.underlying89
  a76 := Tryd.isAgg89
  z76 := Tryd.sizeOf89
  v76 := Tryd.zeroValue89
  t105 := Tryd.underlying100
  a105 := Tryd.isAgg100
  z105 := Tryd.sizeOf100
  v105 := Tryd.zeroValue100
  t107 := Tryd.underlying92
  a107 := Tryd.isAgg92
  z107 := Tryd.sizeOf92
  v107 := Tryd.zeroValue92
  t119 := Tryd.underlying110
  a119 := Tryd.isAgg110
  z119 := Tryd.sizeOf110
  t127 := Tryd.underlying87
  a127 := Tryd.isAgg87
  z127 := Tryd.sizeOf87
  v127 := Tryd.zeroValue87
  t138 := Tryd.underlying112
  a138 := Tryd.isAgg112
  z138 := Tryd.sizeOf112
  v138 := Tryd.zeroValue112
  t139 := Tryd.underlying113
  a139 := Tryd.isAgg113
  z139 := Tryd.sizeOf113
  v139 := Tryd.zeroValue113
  t160 := Tryd.underlying114
  a160 := Tryd.isAgg114
  z160 := Tryd.sizeOf114
  v160 := Tryd.zeroValue114
  t162 := Tryd.underlying109
  a162 := Tryd.isAgg109
  z162 := Tryd.sizeOf109
  v162 := Tryd.zeroValue109
  t164 := Tryd.underlying98
  a164 := Tryd.isAgg98
  z164 := Tryd.sizeOf98
  v164 := Tryd.zeroValue98
  t203 := Tryd.underlying107
  a203 := Tryd.isAgg107
  z203 := Tryd.sizeOf107
  v203 := Tryd.zeroValue107
  t206 := Tryd.underlying118
  a206 := Tryd.isAgg118
  z206 := Tryd.sizeOf118
  v206 := Tryd.zeroValue118
  t208 := Tryd.underlying120
  a208 := Tryd.isAgg120
  z208 := Tryd.sizeOf120
  v208 := Tryd.zeroValue120
  g3 := by kernel_rfl
  g4 := by kernel_rfl
  g13 := by kernel_rfl }
theorem Tryd.Builder_Extra_158 : Builder.Extra Tryd.prog Tryd.lays158_ren := {
  sizeBuilder := by kernel_rfl
  liesBuilder := by kernel_rfl
  t5 := Tryd.underlying5
  a5 := Tryd.isAgg5
  z5 := Tryd.sizeOf5
  v5 := Tryd.zeroValue5
  infoByte := by kernel_rfl
  cellsByte := by kernel_rfl
  sizeByte := by kernel_rfl
  neB5 := by decide }
def Tryd.lays159_ren : Go.Shelf.Ren := ⟨fun | 159 => 48 | 165 => 58 | 166 => 59 | 167 => 45 | 169 => 46 | 230 => 60 | 204 => 61 | 240 => 57 | 241 => 67 | 197 => 68 | 118 => 69 | 168 => 70 | 270 => 71 | 262 => 72 | 276 => 66 | 277 => 54 | 260 => 73 | 242 => 74 | 313 => 75 | 278 => 76 | 274 => 77 | 275 => 78 | n => n, fun | 9 => 9 | 4 => 4 | 3 => 3 | 5 => 5 | 72 => 75 | 0 => 0 | 76 => 89 | 75 => 77 | 107 => 92 | 70 => 73 | 20 => 20 | 37 => 22 | 127 => 87 | 21 => 21 | 105 => 100 | 164 => 98 | 162 => 109 | 203 => 107 | 119 => 110 | 46 => 60 | 139 => 113 | 138 => 112 | 51 => 93 | 160 => 114 | 208 => 120 | 206 => 118 | 80 => 79 | n => n, fun | 13 => 1 | 3 => 2 | 4 => 3 | n => n⟩
theorem Tryd.lays159 : Go.Proofs.Lays.n159 Tryd.prog Tryd.lays159_ren := {
  mixed := by kernel_rfl
  f118 := Tryd.func69.trans (congrArg some (by kernel_rfl))
  f159 := Tryd.func48.trans (congrArg some (by kernel_rfl))
  f165 := Tryd.func58.trans (congrArg some (by kernel_rfl))
  f166 := Tryd.func59.trans (congrArg some (by kernel_rfl))
  f167 := Tryd.func45.trans (congrArg some (by kernel_rfl))
  f168 := Tryd.func70.trans (congrArg some (by kernel_rfl))
  f169 := Tryd.func46.trans (congrArg some (by kernel_rfl))
  f197 := Tryd.func68.trans (congrArg some (by kernel_rfl))
  f204 := Tryd.func61.trans (congrArg some (by kernel_rfl))
  f230 := Tryd.func60.trans (congrArg some (by kernel_rfl))
  f240 := Tryd.func57.trans (congrArg some (by kernel_rfl))
  f241 := Tryd.func67.trans (congrArg some (by kernel_rfl))
  f242 := Tryd.func74.trans (congrArg some (by kernel_rfl))
  f260 := Tryd.func73.trans (congrArg some (by kernel_rfl))
  f262 := Tryd.func72.trans (congrArg some (by kernel_rfl))
  f270 := Tryd.func71.trans (congrArg some (by kernel_rfl))
  f274 := Tryd.func77.trans (congrArg some (by kernel_rfl))
  f275 := Tryd.func78.trans (congrArg some (by kernel_rfl))
  f276 := Tryd.func66.trans (congrArg some (by kernel_rfl))
  f277 := Tryd.func54.trans (congrArg some (by kernel_rfl))
  f278 := Tryd.func76.trans (congrArg some (by kernel_rfl))
  f313 := Tryd.func75.trans (congrArg some (by kernel_rfl))
  t0 := Tryd.underlying0
  a0 := Tryd.isAgg0
  z0 := Tryd.sizeOf0
  v0 := Tryd.zeroValue0
  t3 := Tryd.underlying3
  a3 := Tryd.isAgg3
  z3 := Tryd.sizeOf3
  v3 := Tryd.zeroValue3
  t4 := Tryd.underlying4
  a4 := Tryd.isAgg4
  z4 := Tryd.sizeOf4
  v4 := Tryd.zeroValue4
  t5 := Tryd.underlying5
  a5 := Tryd.isAgg5
  z5 := Tryd.sizeOf5
  v5 := Tryd.zeroValue5
  t9 := Tryd.underlying9
  a9 := Tryd.isAgg9
  z9 := Tryd.sizeOf9
  v9 := Tryd.zeroValue9
  t20 := Tryd.underlying20
  a20 := Tryd.isAgg20
  z20 := Tryd.sizeOf20
  v20 := Tryd.zeroValue20
  t21 := Tryd.underlying21
  a21 := Tryd.isAgg21
  z21 := Tryd.sizeOf21
  v21 := Tryd.zeroValue21
  t37 := Tryd.underlying22
  a37 := Tryd.isAgg22
  z37 := Tryd.sizeOf22
  v37 := Tryd.zeroValue22
  t46 := Tryd.underlying60
  a46 := Tryd.isAgg60
  z46 := Tryd.sizeOf60
  v46 := Tryd.zeroValue60
  t51 := Tryd.underlying93
  a51 := Tryd.isAgg93
  z51 := Tryd.sizeOf93
  v51 := Tryd.zeroValue93
  t70 := Tryd.underlying73
  a70 := Tryd.isAgg73
  z70 := Tryd.sizeOf73
  v70 := Tryd.zeroValue73
  t72 := Tryd.underlying75
  a72 := Tryd.isAgg75
  z72 := Tryd.sizeOf75
  v72 := Tryd.zeroValue75
  t75 := Tryd.underlying77
  a75 := Tryd.isAgg77
  z75 := Tryd.sizeOf77
  v75 := Tryd.zeroValue77
  t76 := Tryd.underlying89
  a76 := Tryd.isAgg89
  z76 := Tryd.sizeOf89
  v76 := Tryd.zeroValue89
  t105 := Tryd.underlying100
  a105 := Tryd.isAgg100
  z105 := Tryd.sizeOf100
  v105 := Tryd.zeroValue100
  t107 := Tryd.underlying92
  a107 := Tryd.isAgg92
  z107 := Tryd.sizeOf92
  v107 := Tryd.zeroValue92
  t119 := Tryd.underlying110
  a119 := Tryd.isAgg110
  z119 := Tryd.sizeOf110
  t127 := Tryd.underlying87
  a127 := Tryd.isAgg87
  z127 := Tryd.sizeOf87
  v127 := Tryd.zeroValue87
  t138 := Tryd.underlying112
  a138 := Tryd.isAgg112
  z138 := Tryd.sizeOf112
  v138 := Tryd.zeroValue112
  t139 := Tryd.underlying113
  a139 := Tryd.isAgg113
  z139 := Tryd.sizeOf113
  v139 := Tryd.zeroValue113
  t160 := Tryd.underlying114
  a160 := Tryd.isAgg114
  z160 := Tryd.sizeOf114
  v160 := Tryd.zeroValue114
  t162 := Tryd.underlying109
  a162 := Tryd.isAgg109
  z162 := Tryd.sizeOf109
  v162 := Tryd.zeroValue109
  t164 := Tryd.underlying98
  a164 := Tryd.isAgg98
  z164 := Tryd.sizeOf98
  v164 := Tryd.zeroValue98
  t203 := Tryd.underlying107
  a203 := Tryd.isAgg107
  z203 := Tryd.sizeOf107
  v203 := Tryd.zeroValue107
  t206 := Tryd.underlying118
  a206 := Tryd.isAgg118
  z206 := Tryd.sizeOf118
  v206 := Tryd.zeroValue118
  t208 := Tryd.underlying120
  a208 := Tryd.isAgg120
  z208 := Tryd.sizeOf120
  v208 := Tryd.zeroValue120
  g3 := by kernel_rfl
  g4 := by kernel_rfl
  g13 := by kernel_rfl }
theorem Tryd.Builder_Extra_159 : Builder.Extra Tryd.prog Tryd.lays159_ren := {
  sizeBuilder := by kernel_rfl
  liesBuilder := by kernel_rfl
  t5 := Tryd.underlying5
  a5 := Tryd.isAgg5
  z5 := Tryd.sizeOf5
  v5 := Tryd.zeroValue5
  infoByte := by kernel_rfl
  cellsByte := by kernel_rfl
  sizeByte := by kernel_rfl
  neB5 := by decide }
def Tryd.lays149_ren : Go.Shelf.Ren := ⟨fun | 149 => 32 | 222 => 50 | n => n, fun | 9 => 9 | 5 => 5 | 3 => 3 | 4 => 4 | n => n, fun | n => n⟩
theorem Tryd.lays149 : Go.Proofs.Lays.n149 Tryd.prog Tryd.lays149_ren := {
  mixed := by kernel_rfl
  f149 := Tryd.func32.trans (congrArg some (by kernel_rfl))
  f222 := Tryd.func50.trans (congrArg some (by kernel_rfl))
  t3 := Tryd.underlying3
  a3 := Tryd.isAgg3
  z3 := Tryd.sizeOf3
  v3 := Tryd.zeroValue3
  t4 := Tryd.underlying4
  a4 := Tryd.isAgg4
  z4 := Tryd.sizeOf4
  v4 := Tryd.zeroValue4
  t5 := Tryd.underlying5
  a5 := Tryd.isAgg5
  z5 := Tryd.sizeOf5
  v5 := Tryd.zeroValue5
  t9 := Tryd.underlying9
  a9 := Tryd.isAgg9
  z9 := Tryd.sizeOf9
  v9 := Tryd.zeroValue9 }
end Go.Proofs
namespace Go.Proofs
open Go.Vc
set_option maxRecDepth 10000

theorem ext_below {w w' : World} (h : Go.RowKit.Below w.heap.size w w') : Ext w w' := ⟨h.os, h.tape, h.output, h.size, fun k hk _ => h.block k hk⟩
theorem strOf_list (bs : List Int) : (strOf bs).data.toList = bs.map fun m => UInt8.ofNat m.toNat := rfl
def asc (bs : List Int) : Prop := ∀ b ∈ bs, 0 ≤ b ∧ b < 128
theorem asc_at {bs : List Int} (h : asc bs) (j : Nat) (b : UInt8) (hj : (strOf bs).data.toList[j]? = some b) : b.toNat < 128 := by
  rw [strOf_list, List.getElem?_map] at hj
  obtain ⟨x, hx, rfl⟩ := Option.map_eq_some_iff.1 hj
  have := h x (List.mem_of_getElem? hx)
  rw [UInt8.toNat_ofNat']; omega
theorem lower_at {x : Int} (h : 0 ≤ x ∧ x < 128) : Lib.lowerB (UInt8.ofNat x.toNat) = UInt8.ofNat (lwF x).toNat := by
  have hd : ∀ n : Fin 128, Lib.lowerB (UInt8.ofNat (((n.val : Nat) : Int)).toNat) = UInt8.ofNat (lwF ((n.val : Nat) : Int)).toNat := by decide +kernel
  obtain ⟨n, rfl⟩ : ∃ n : Nat, x = (n : Int) := ⟨x.toNat, by omega⟩
  exact hd ⟨n, by omega⟩
theorem upper_at {x : Int} (h : 0 ≤ x ∧ x < 128) : Lib.upperB (UInt8.ofNat x.toNat) = UInt8.ofNat (upF x).toNat := by
  have hd : ∀ n : Fin 128, Lib.upperB (UInt8.ofNat (((n.val : Nat) : Int)).toNat) = UInt8.ofNat (upF ((n.val : Nat) : Int)).toNat := by decide +kernel
  obtain ⟨n, rfl⟩ : ∃ n : Nat, x = (n : Int) := ⟨x.toNat, by omega⟩
  exact hd ⟨n, by omega⟩
theorem str_map {bs : List Int} {f : UInt8 → UInt8} {g : Int → Int} (h : ∀ x ∈ bs, f (UInt8.ofNat x.toNat) = UInt8.ofNat (g x).toNat) : (⟨((strOf bs).data.toList.map f).toArray⟩ : ByteArray) = strOf (bs.map g) := by
  rw [strOf_list, List.map_map]
  unfold strOf
  rw [List.map_map]
  congr 2
  exact List.map_congr_left fun x hx => h x hx
theorem lower_ok (w : World) (bs : List Int) (h : asc bs) (hl : bs.length ≤ 1000000) : Calls Tryd.prog 48 #[.string (strOf bs)] w (Ret fun u w' => u = .string (strOf (bs.map lwF)) ∧ Ext w w') :=
  (Any.strings_ToLower_ascii Tryd.lays159 Tryd.Builder_Extra_159 (strOf bs) w (by rw [str_size]; omega) (asc_at h)).mono fun e w' ⟨he, hb⟩ => ⟨_, he, by
    rw [← str_map (f := Lib.lowerB) fun x hx => lower_at (h x hx)]; rfl, ext_below hb⟩
theorem upper_ok (w : World) (bs : List Int) (h : asc bs) (hl : bs.length ≤ 1000000) : Calls Tryd.prog 49 #[.string (strOf bs)] w (Ret fun u w' => u = .string (strOf (bs.map upF)) ∧ Ext w w') :=
  (Any.strings_ToUpper_ascii Tryd.lays158 Tryd.Builder_Extra_158 (strOf bs) w (by rw [str_size]; omega) (asc_at h)).mono fun e w' ⟨he, hb⟩ => ⟨_, he, by
    rw [← str_map (f := Lib.upperB) fun x hx => upper_at (h x hx)]; rfl, ext_below hb⟩
theorem lastF_spec : ∀ (l : List Int) (k : Nat), (lastF l k = -1 ∧ ∀ x ∈ l, x ≠ 49) ∨ ∃ i : Nat, i < l.length ∧ lastF l k = ((k + i : Nat) : Int) ∧ l[i]? = some 49 ∧ ∀ j, i < j → j < l.length → l[j]? ≠ some 49
  | [], k => .inl ⟨rfl, fun x h => by cases h⟩
  | b :: l, k => by
    rcases lastF_spec l (k + 1) with ⟨h1, h2⟩ | ⟨i, h1, h2, h3, h4⟩
    · by_cases hb : b = 49
      · refine .inr ⟨0, by simp, by rw [lastF, if_neg (by omega), if_pos hb]; rfl, by simp [hb], fun j hj hl => ?_⟩
        obtain ⟨j, rfl⟩ : ∃ n, j = n + 1 := ⟨j - 1, by omega⟩
        simp only [List.getElem?_cons_succ]
        intro hc
        exact h2 49 (List.mem_of_getElem? hc) rfl
      · refine .inl ⟨by rw [lastF, if_neg (by omega), if_neg hb], fun x hx => ?_⟩
        rcases List.mem_cons.1 hx with rfl | hx
        · exact hb
        · exact h2 x hx
    · refine .inr ⟨i + 1, by simp; omega, by rw [lastF, if_pos (by omega), h2]; omega, by simpa using h3, fun j hj hl => ?_⟩
      obtain ⟨j, rfl⟩ : ∃ n, j = n + 1 := ⟨j - 1, by omega⟩
      simp only [List.getElem?_cons_succ]
      exact h4 j (by omega) (by simpa using hl)
theorem at_is {bs : List Int} (hb : byt bs) {j : Nat} (hj : j < bs.length) : (((strOf bs).data[j]!).toNat : Int) = bs[j] := by
  have h1 : (strOf bs).data[j]! = UInt8.ofNat bs[j].toNat := by
    have : (strOf bs).data[j]? = some (UInt8.ofNat bs[j].toNat) := by simp [strOf, hj]
    rw [getElem!_def, this]
  rw [h1]
  exact u8i (hb bs[j] (List.getElem_mem _))
theorem last_is {bs : List Int} (hb : byt bs) : Lib.lastIndexByte (strOf bs) 49 = lastF bs 0 := by
  unfold Lib.lastIndexByte
  rw [str_size]
  rcases Lib.lastIdx_spec (strOf bs) 49 bs.length with ⟨h1, h2⟩ | ⟨i, h0, h1, h2, h3⟩ <;> rcases lastF_spec bs 0 with ⟨k1, k2⟩ | ⟨m, k0, k1, k2, k3⟩
  · rw [h1, k1]
  · exfalso
    refine h2 m k0 ?_
    rw [at_is hb k0]
    rw [List.getElem?_eq_getElem k0, Option.some.injEq] at k2
    exact k2
  · exfalso
    rw [at_is hb h0] at h2
    exact k2 bs[i] (List.getElem_mem _) h2
  · rw [h1, k1]
    rw [at_is hb h0] at h2
    rw [List.getElem?_eq_getElem k0, Option.some.injEq] at k2
    rcases Nat.lt_trichotomy i m with h | h | h
    · exact absurd (by rw [at_is hb k0]; exact k2) (h3 m h k0)
    · subst h; omega
    · exact absurd (by rw [List.getElem?_eq_getElem h0, h2]) (k3 i h h0)
theorem last_ok (w : World) (bs : List Int) (hb : byt bs) (hl : bs.length ≤ 1000000) : Calls Tryd.prog 32 #[.string (strOf bs), .int .u8 49] w (Ret fun u w' => u = .int .i64 (lastF bs 0) ∧ w' = w) :=
  (Any.strings_LastIndexByte Tryd.lays149 (strOf bs) 49 (by rw [str_size]; omega) w).mono fun e w' ⟨he, hw⟩ => ⟨_, he, by rw [last_is hb], hw⟩
def see (c : Int) : Bool := decide (33 ≤ c) && decide (c ≤ 126)
theorem lwF_b {x : Int} (h : 0 ≤ x ∧ x < 128) : 0 ≤ lwF x ∧ lwF x < 128 := by unfold lwF; split <;> omega
theorem upF_b {x : Int} (h : 0 ≤ x ∧ x < 128) : 0 ≤ upF x ∧ upF x < 128 := by unfold upF; split <;> omega
theorem asc_byt {l : List Int} (h : asc l) : byt l := fun x hx => by have := h x hx; omega
theorem asc_map {l : List Int} {f : Int → Int} (hf : ∀ {x : Int}, (0 ≤ x ∧ x < 128) → 0 ≤ f x ∧ f x < 128) (h : asc l) : asc (l.map f) := fun x hx => by
  obtain ⟨y, hy, rfl⟩ := List.mem_map.1 hx
  exact hf (h y hy)
theorem seen_asc {l : List Int} (h : seen l = true) : asc l := fun x hx => by
  have := List.all_eq_true.1 h x hx
  simp at this; omega
theorem plain_ok (w : World) (s : List Int) (hb : byt s) (hl : s.length ≤ 1000000) :
    Calls Tryd.prog 31 #[.string (strOf s)] w (Ret fun u w' => u = .tuple #[.string (strOf (plainE s).1), .bool (plainE s).2] ∧ Ext w w') := by
  refine calls_of_cfg c31_ok (Nat.le_of_ble_eq_true rfl) ?_
  simp only [argE_nil, argE_cons, Nat.zero_add]
  have hsz := str_size s
  (refine W_at c31_ok ?_; refine ⟨_, rfl, ?_⟩; simp (disch := first | omega | assumption | rfl | (simp only [vcS] <;> omega) | fail) only [↓vcA, vcB, ↓reduceIte, reduceCtorEq])
  (refine W_at c31_ok ?_; refine ⟨_, rfl, ?_⟩; simp (disch := first | omega | assumption | rfl | (simp only [vcS] <;> omega) | fail) only [↓vcA, vcB, ↓reduceIte, Nat.reduceEqDiff, reduceCtorEq, Option.bind_some, hsz])
  have L : ∀ (k i : Nat) (tl : Env), k + i = s.length → seen (s.take i) = true →
      W Tryd.prog (Ret fun u w' => u = .tuple #[.string (strOf (plainE s).1), .bool (plainE s).2] ∧ Ext w w') 31 12 ((0, .string (strOf s)) :: (7, .int .i64 s.length) :: (8, .int .i64 i) :: tl) w := by
    intro k
    induction k with
    | zero =>
      intro i tl hi hs
      have hil : ¬ ((i : Int) < (s.length : Int)) := by omega
      rw [List.take_of_length_le (by omega)] at hs
      have ha := seen_asc hs
      have hal := asc_map (fun {x} h => lwF_b (x := x) h) ha
      have hau := asc_map (fun {x} h => upF_b (x := x) h) ha
      rw [plainE, if_pos hs]
      have d1 : decide (strOf s = strOf (s.map lwF)) = decide (s = s.map lwF) := decide_eq_decide.2 (strOf_inj hb (asc_byt hal))
      have d2 : decide (strOf s = strOf (s.map upF)) = decide (s = s.map upF) := decide_eq_decide.2 (strOf_inj hb (asc_byt hau))
      (refine W_at c31_ok ?_; refine ⟨_, rfl, ?_⟩; simp (disch := first | omega | assumption | rfl | (simp only [vcS] <;> omega) | fail) only [↓vcA, vcB, ↓reduceIte, Nat.reduceEqDiff, reduceCtorEq, Option.bind_some, hil])
      (refine W_at c31_ok ?_; refine ⟨_, rfl, ?_⟩; simp (disch := first | omega | assumption | rfl | (simp only [vcS] <;> omega) | fail) only [↓vcA, vcB, ↓reduceIte, Nat.reduceEqDiff, reduceCtorEq])
      (refine W_at c31_ok ?_; refine ⟨_, rfl, ?_⟩; simp (disch := first | omega | assumption | rfl | (simp only [vcS] <;> omega) | fail) only [↓vcL1, ↓vcA, vcB, ↓reduceIte, Option.bind_some, Option.map_some])
      refine callV_ret (lower_ok w s ha hl) ?_
      rintro _ w1 ⟨rfl, hE1⟩
      simp (disch := first | omega | assumption | rfl | (simp only [vcS] <;> omega) | fail) only [ptS1_eq, ↓vcA, vcB, ↓reduceIte, reduceCtorEq]
      by_cases hlo : s = s.map lwF
      · have t1 := decide_eq_true hlo
        rw [t1] at d1
        rw [t1]
        (refine W_at c31_ok ?_; refine ⟨_, rfl, ?_⟩; simp (disch := first | omega | assumption | rfl | (simp only [vcS] <;> omega) | fail) only [↓ptV_l, ↓vcA, vcB, ↓reduceIte, Nat.reduceEqDiff, reduceCtorEq, Option.bind_some, d1])
        (refine W_at c31_ok ?_; refine ⟨_, rfl, ?_⟩; simp (disch := first | omega | assumption | rfl | (simp only [vcS] <;> omega) | fail) only [↓vcA, vcB, ↓reduceIte, Nat.reduceEqDiff, Option.bind_some, Option.map_some, Ret_returned])
        first | exact hE1 | exact ⟨rfl, hE1⟩
      · have t1 := decide_eq_false hlo
        rw [t1] at d1
        rw [t1]
        (refine W_at c31_ok ?_; refine ⟨_, rfl, ?_⟩; simp (disch := first | omega | assumption | rfl | (simp only [vcS] <;> omega) | fail) only [↓vcL1, ↓vcA, vcB, ↓reduceIte, Nat.reduceEqDiff, reduceCtorEq, Option.bind_some, Option.map_some, d1])
        refine callV_ret (upper_ok w1 s ha hl) ?_
        rintro _ w2 ⟨rfl, hE2⟩
        have hE3 : Ext w w2 := hE1.ext hE2
        cases hup : decide (s = s.map upF) with
        | true =>
          rw [hup] at d2
          simp (disch := first | omega | assumption | rfl | (simp only [vcS] <;> omega) | fail) only [ptS1_eq, ↓vcA, vcB, ↓reduceIte, Nat.reduceEqDiff, Option.bind_some, d2]
          (refine W_at c31_ok ?_; refine ⟨_, rfl, ?_⟩; simp (disch := first | omega | assumption | rfl | (simp only [vcS] <;> omega) | fail) only [↓vcA, vcB, ↓reduceIte, Nat.reduceEqDiff, Option.bind_some, Option.map_some, Ret_returned])
          first | exact hE3 | exact ⟨rfl, hE3⟩
        | false =>
          rw [hup] at d2
          simp (disch := first | omega | assumption | rfl | (simp only [vcS] <;> omega) | fail) only [ptS1_eq, ↓vcA, vcB, ↓reduceIte, Nat.reduceEqDiff, Option.bind_some, d2]
          (refine W_at c31_ok ?_; refine ⟨_, rfl, ?_⟩; simp (disch := first | omega | assumption | rfl | (simp only [vcS] <;> omega) | fail) only [↓vcA, vcB, ↓reduceIte, Nat.reduceEqDiff, Option.bind_some, Option.map_some, Ret_returned])
          first | exact hE3 | exact ⟨rfl, hE3⟩
    | succ k ih =>
      intro i tl hi hs
      have hil : (i : Int) < (s.length : Int) := by omega
      have h0 : 0 ≤ (i : Int) := by omega
      have hwi : IntKind.i64.wrap ((i : Int) + 1) = ((i + 1 : Nat) : Int) := wrap_i64 (by omega) (by omega)
      have g1 := str_get (bs := s) (i := i) (by omega)
      have u1 := u8i (hb s[i] (List.getElem_mem _))
      have hmem : s[i] ∈ s := List.getElem_mem _
      have htk : seen (s.take (i + 1)) = (seen (s.take i) && see s[i]) := by
        rw [List.take_succ_eq_append_getElem (by omega), seen, seen, List.all_append]; simp [see]
      have hbad : see s[i] = false → seen s = false := fun h => by
        cases hss : seen s with
        | false => rfl
        | true =>
          have := List.all_eq_true.1 hss s[i] hmem
          unfold see at h; rw [h] at this; cases this
      have hout : see s[i] = false → ∀ tl, W Tryd.prog (Ret fun u w' => u = .tuple #[.string (strOf (plainE s).1), .bool (plainE s).2] ∧ Ext w w') 31 8 ((0, .string (strOf s)) :: (7, .int .i64 s.length) :: (8, .int .i64 i) :: (20, .bool true) :: tl) w := fun h tl => by
        rw [plainE, if_neg (by rw [hbad h]; decide)]
        (refine W_at c31_ok ?_; refine ⟨_, rfl, ?_⟩; simp (disch := first | omega | assumption | rfl | (simp only [vcS] <;> omega) | fail) only [↓vcA, vcB, ↓reduceIte, Nat.reduceEqDiff, reduceCtorEq])
        (refine W_at c31_ok ?_; refine ⟨_, rfl, ?_⟩; simp (disch := first | omega | assumption | rfl | (simp only [vcS] <;> omega) | fail) only [↓vcA, vcB, ↓reduceIte, Nat.reduceEqDiff])
        (refine W_at c31_ok ?_; refine ⟨_, rfl, ?_⟩; simp (disch := first | omega | assumption | rfl | (simp only [vcS] <;> omega) | fail) only [↓vcA, vcB, ↓reduceIte, Nat.reduceEqDiff, Option.bind_some, Option.map_some, Ret_returned])
        exact ⟨rfl, Keep.refl _ w⟩
      have hih := ih (i + 1)
      rw [htk, hs] at hih
      clear hbad htk hmem
      generalize s[i] = x at *
      (refine W_at c31_ok ?_; refine ⟨_, rfl, ?_⟩; simp (disch := first | omega | assumption | rfl | (simp only [vcS] <;> omega) | fail) only [↓vcA, vcB, ↓reduceIte, Nat.reduceEqDiff, reduceCtorEq, Option.bind_some, hil])
      (refine W_at c31_ok ?_; refine ⟨_, rfl, ?_⟩; simp (disch := first | omega | assumption | rfl | (simp only [vcS] <;> omega) | fail) only [↓vcA, vcB, ↓reduceIte, Nat.reduceEqDiff, reduceCtorEq])
      (refine W_at c31_ok ?_; refine ⟨_, rfl, ?_⟩; simp (disch := first | omega | assumption | rfl | (simp only [vcS] <;> omega) | fail) only [↓vcA, vcB, ↓reduceIte, Nat.reduceEqDiff, reduceCtorEq])
      by_cases x1 : x < 33
      · (refine W_at c31_ok ?_; refine ⟨_, rfl, ?_⟩; simp (disch := first | omega | assumption | rfl | (simp only [vcS] <;> omega) | fail) only [↓vcA, vcB, ↓reduceIte, Nat.reduceEqDiff, reduceCtorEq, Option.bind_some, Option.map_some, h0, Int.toNat_natCast, g1, u1, x1])
        exact hout (by simp [see]; omega) _
      by_cases x2 : 126 < x
      · (refine W_at c31_ok ?_; refine ⟨_, rfl, ?_⟩; simp (disch := first | omega | assumption | rfl | (simp only [vcS] <;> omega) | fail) only [↓vcA, vcB, ↓reduceIte, Nat.reduceEqDiff, reduceCtorEq, Option.bind_some, Option.map_some, h0, Int.toNat_natCast, g1, u1, x1, x2])
        exact hout (by simp [see]; omega) _
      (refine W_at c31_ok ?_; refine ⟨_, rfl, ?_⟩; simp (disch := first | omega | assumption | rfl | (simp only [vcS] <;> omega) | fail) only [↓vcA, vcB, ↓reduceIte, Nat.reduceEqDiff, reduceCtorEq, Option.bind_some, Option.map_some, h0, Int.toNat_natCast, g1, u1, x1, x2])
      (refine W_at c31_ok ?_; refine ⟨_, rfl, ?_⟩; simp (disch := first | omega | assumption | rfl | (simp only [vcS] <;> omega) | fail) only [↓vcA, vcB, ↓reduceIte, Nat.reduceEqDiff, reduceCtorEq])
      (refine W_at c31_ok ?_; refine ⟨_, rfl, ?_⟩; simp (disch := first | omega | assumption | rfl | (simp only [vcS] <;> omega) | fail) only [↓vcA, vcB, ↓reduceIte, Nat.reduceEqDiff, reduceCtorEq, Option.bind_some, hwi])
      (refine W_at c31_ok ?_; refine ⟨_, rfl, ?_⟩; simp (disch := first | omega | assumption | rfl | (simp only [vcS] <;> omega) | fail) only [vcB])
      exact hih _ (by omega) (by simp [see]; omega)
  exact L s.length 0 _ (by omega) rfl
end Go.Proofs
namespace Go.Proofs
open Go.Vc
set_option maxRecDepth 10000

theorem U64_neq (x y : BitVec 64) : binR .neq (U64 x) (U64 y) = some (.bool (!decide (x = y))) := by
  unfold U64
  rw [bin_neq]
  congr 3
  rw [decide_eq_decide]
  constructor
  · intro h; exact BitVec.eq_of_toNat_eq (by omega)
  · rintro rfl; rfl
theorem slc3_n {q : Option Addr} {n c : Nat} (h : n ≤ c) : slc3R 1 none (.int .i64 n) (.int .i64 n) (.slice q n c) = some (.slice q n n) := by
  simp only [slc3R]
  rw [if_pos (by omega), Int.toNat_natCast]
theorem clip_ok (w : World) (v : Value) (bs : List Int) (h : Rd w v bs) : Calls Tryd.prog 34 #[v] w (Ret fun u w' => Rd w u bs ∧ w' = w) := by
  obtain ⟨⟨q, c, rfl, hc⟩, hm, hr⟩ := h
  refine calls_of_cfg c34_ok (Nat.le_of_ble_eq_true rfl) ?_
  simp only [argE_nil, argE_cons, Nat.zero_add]
  have k0 := slc3_n (q := q) hc
  (refine W_at c34_ok ?_; refine ⟨_, rfl, ?_⟩; simp (disch := first | omega | assumption | rfl | (simp only [vcS] <;> omega) | fail) only [↓vcA, vcB, ↓reduceIte, reduceCtorEq])
  (refine W_at c34_ok ?_; refine ⟨_, rfl, ?_⟩; simp (disch := first | omega | assumption | rfl | (simp only [vcS] <;> omega) | fail) only [↓vcA, vcB, ↓reduceIte, Nat.reduceEqDiff, reduceCtorEq, Option.bind_some, k0])
  (refine W_at c34_ok ?_; refine ⟨_, rfl, ?_⟩; simp (disch := first | omega | assumption | rfl | (simp only [vcS] <;> omega) | fail) only [↓vcA, vcB, ↓reduceIte, Option.bind_some, Option.map_some, Ret_returned])
  first | exact ⟨⟨_, _, rfl, Nat.le_refl _⟩, hm, hr⟩ | exact ⟨⟨⟨_, _, rfl, Nat.le_refl _⟩, hm, hr⟩, rfl⟩
def readR (r : Read) (x : Value) : Value := .tuple #[.string (strOf r.h), x, .bool r.m, .int .i64 r.e]
def ReadTo (w w' : World) (r : Read) (u : Value) : Prop := ∃ x, u = readR r x ∧ Rd w' x r.d ∧ Ext w w'
theorem noRead_to (w : World) (e : Int) : ReadTo w w (noRead e) (.tuple #[.string ⟨#[]⟩, .slice none 0 0, .bool false, .int .i64 e]) := ⟨_, rfl, Rd.nil w, Keep.refl _ w⟩
theorem noRead_ext {w w' : World} (h : Ext w w') (e : Int) : ReadTo w w' (noRead e) (.tuple #[.string ⟨#[]⟩, .slice none 0 0, .bool false, .int .i64 e]) := ⟨_, rfl, Rd.nil w', h⟩
theorem plain_fine {s : List Int} : byt (plainE s).1 ∧ (plainE s).1.length ≤ s.length := by
  unfold plainE
  split
  · rename_i h
    exact ⟨asc_byt (asc_map (fun {x} h => lwF_b (x := x) h) (seen_asc h)), by simp⟩
  · exact ⟨byt_nil, by simp⟩
theorem vals_b {l : List Int} : ∀ v ∈ valsF l, -1 ≤ v ∧ v ≤ 31 := fun v hv => by
  obtain ⟨x, _, rfl⟩ := List.mem_map.1 hv
  have h1 := placeF_lt x l32S 0
  have hl : l32S.length = 32 := rfl
  refine ⟨h1.1, ?_⟩
  rcases h1.2 with h | h
  · omega
  · cases h
/-- Behind the letters: the sum. -/
theorem read_sum (w0 w : World) (t : List Int) (a : Nat) (V : List Int) (vb : Value) (i : Int) (tl : Env) (ht : byt t) (htl : t.length ≤ 1000) (ha : a < t.length) (hE : Ext w0 w) (hV : Rd w vb V) (h5 : five V) (hVl : 6 ≤ V.length ∧ V.length ≤ 1000) :
    W Tryd.prog (Ret fun u w' => ReadTo w0 w' (readV (t.take a) V) u) 13 7 ((0, .string (strOf t)) :: (7, .int .i64 a) :: (8, vb) :: (9, .int .i64 i) :: tl) w := by
  have hno : ¬ V.any (fun v => decide (v < 0)) = true := by
    intro h
    obtain ⟨x, hx, hx2⟩ := List.any_eq_true.1 h
    have := h5 x hx
    simp at hx2; omega
  rw [readV, if_neg hno]
  have hsz := str_size t
  have hc1 := str_cut t 0 a
  rw [List.drop_zero] at hc1
  have b1 : 0 ≤ (a : Int) ∧ (a : Int) ≤ (t.length : Int) := by omega
  have hhb : byt (t.take a) := byt_take ht a
  have hhl : (t.take a).length ≤ 1000 := by rw [List.length_take]; omega
  generalize t.take a = h at *
  have hsl : (spreadF h).length = 2 * h.length + 1 := by simp [spreadF]; omega
  have hsb : byt (spreadF h) := byt_app (hi_b hhb) fun x hx => by
    rcases List.mem_cons.1 hx with rfl | hx
    · omega
    · exact lo_b x hx
  have e1 : Value.int .u64 1 = U64 (constB false) := rfl
  have e2 : Value.int .u64 734539939 = U64 (constB true) := rfl
  (refine W_at c13_ok ?_; refine ⟨_, rfl, ?_⟩; simp (disch := first | omega | assumption | rfl | (simp only [vcS] <;> omega) | fail) only [↓ptV_l, ↓vcA, vcB, ↓reduceIte, Nat.reduceEqDiff, reduceCtorEq, Option.bind_some, Option.map_some, hsz, b1, Int.toNat_natCast, hc1])
  generalize hr0 : (if runB 25 bechG (spreadF h ++ V) ≠ constB false ∧ runB 25 bechG (spreadF h ++ V) ≠ constB true then noRead 5 else (⟨h, V.take (V.length - 6), decide (runB 25 bechG (spreadF h ++ V) = constB true), 0⟩ : Read)) = R0
  refine callV_ret (bech_ok w.drew) ?_
  rintro _ w1 ⟨rfl, hE1⟩
  refine callV_ret (spread_ok w1 h hhb (by omega)) ?_
  rintro u2 w2 hN2
  have hE2 : Ext w w2 := (((Keep.refl _ w).drew : Ext w w.drew).ext hE1).ext hN2.ext
  refine appN hN2 (hV.ext hE2) (by omega) fun v3 w3 hN3 _ _ => ?_
  refine callV_ret (run_ok w3 25 bechG v3 (spreadF h ++ V) 0 (by decide) rfl hN3.own.rd (byt_app hsb (five_byt h5)) (by rw [List.length_append]; omega) (by decide)) ?_
  rintro _ w4 ⟨rfl, hE4⟩
  have hE5 : Ext w w4 := ((((Keep.refl _ w).drew : Ext w w.drew).ext hE1).ext hN3.ext).ext hE4
  have hE6 : Ext w0 w4 := hE.ext hE5
  have hV4 := hV.ext hE5
  rw [List.replicate_zero, List.append_nil]
  generalize runB 25 bechG (spreadF h ++ V) = c at *
  have n1 := U64_neq c (constB false)
  have n2 := U64_neq c (constB true)
  have n3 := U64_eql c (constB true)
  have good : ∀ tl, R0 = (⟨h, V.take (V.length - 6), decide (c = constB true), 0⟩ : Read) → W Tryd.prog (Ret fun u w' => ReadTo w0 w' R0 u) 13 5 ((0, .string (strOf t)) :: (7, .int .i64 a) :: (8, vb) :: (11, U64 c) :: (68, .bool false) :: tl) w4 := fun tl hR => by
    rw [hR]
    obtain ⟨⟨q, cp, rfl, hcp⟩, hm, hrd⟩ := hV4
    have hlen : lenR (.slice q V.length cp) = some (.int .i64 V.length) := rfl
    have hw6 : IntKind.i64.wrap ((V.length : Int) - 6) = ((V.length - 6 : Nat) : Int) := by rw [wrap_i64 (by omega) (by omega)]; omega
    have hk : 0 ≤ ((V.length - 6 : Nat) : Int) ∧ ((V.length - 6 : Nat) : Int) ≤ (cp : Int) := by omega
    have hcut := Rd.cut (w := w4) (q := q) (n := V.length) (c := cp) (bs := V) ⟨⟨q, cp, rfl, hcp⟩, hm, hrd⟩ (l := 0) (j := V.length - 6) (by omega) (by omega)
    rw [advA_0, List.drop_zero] at hcut
    (refine W_at c13_ok ?_; refine ⟨_, rfl, ?_⟩; simp (disch := first | omega | assumption | rfl | (simp only [vcS] <;> omega) | fail) only [↓vcA, vcB, ↓reduceIte, Nat.reduceEqDiff, reduceCtorEq])
    (refine W_at c13_ok ?_; refine ⟨_, rfl, ?_⟩; simp (disch := first | omega | assumption | rfl | (simp only [vcS] <;> omega) | fail) only [↓ptV_l, ↓vcA, vcB, ↓reduceIte, Nat.reduceEqDiff, reduceCtorEq, Option.bind_some, Option.map_some, hsz, b1, Int.toNat_natCast, hc1, hw6, hk, e2, n3])
    have hD : Ext w4 w4.drew := (Keep.refl _ w4).drew
    refine callV_ret (clip_ok w4.drew _ _ (hcut.ext hD)) ?_
    rintro u5 wq ⟨hu5, hw⟩
    subst hw
    (refine W_at c13_ok ?_; refine ⟨_, rfl, ?_⟩; simp (disch := first | omega | assumption | rfl | (simp only [vcS] <;> omega) | fail) only [↓vcA, vcB, ↓reduceIte, Nat.reduceEqDiff, Option.bind_some, Option.map_some, Ret_returned])
    exact ⟨u5, rfl, hu5, hE6.ext hD⟩
  have bad : ∀ tl, R0 = noRead 5 → W Tryd.prog (Ret fun u w' => ReadTo w0 w' R0 u) 13 5 ((0, .string (strOf t)) :: (7, .int .i64 a) :: (8, vb) :: (11, U64 c) :: (68, .bool true) :: tl) w4 := fun tl hR => by
    rw [hR]
    (refine W_at c13_ok ?_; refine ⟨_, rfl, ?_⟩; simp (disch := first | omega | assumption | rfl | (simp only [vcS] <;> omega) | fail) only [↓vcA, vcB, ↓reduceIte, Nat.reduceEqDiff, reduceCtorEq])
    (refine W_at c13_ok ?_; refine ⟨_, rfl, ?_⟩; simp (disch := first | omega | assumption | rfl | (simp only [vcS] <;> omega) | fail) only [↓vcA, vcB, ↓reduceIte, Nat.reduceEqDiff])
    (refine W_at c13_ok ?_; refine ⟨_, rfl, ?_⟩; simp (disch := first | omega | assumption | rfl | (simp only [vcS] <;> omega) | fail) only [↓vcA, vcB, ↓reduceIte, Nat.reduceEqDiff, Option.bind_some, Option.map_some, Ret_returned])
    exact noRead_ext hE6 5
  by_cases k1 : c = constB false
  · have d1 := decide_eq_true k1
    (refine W_at c13_ok ?_; refine ⟨_, rfl, ?_⟩; simp (disch := first | omega | assumption | rfl | (simp only [vcS] <;> omega) | fail) only [↓vcA, vcB, ↓reduceIte, Nat.reduceEqDiff, reduceCtorEq, Option.bind_some, e1, n1, d1])
    exact good _ (by rw [← hr0, if_neg (fun h => h.1 k1)])
  · have d1 := decide_eq_false k1
    by_cases k2 : c = constB true
    · have d2 := decide_eq_true k2
      (refine W_at c13_ok ?_; refine ⟨_, rfl, ?_⟩; simp (disch := first | omega | assumption | rfl | (simp only [vcS] <;> omega) | fail) only [↓vcA, vcB, ↓reduceIte, Nat.reduceEqDiff, reduceCtorEq, Option.bind_some, e1, e2, n1, n2, d1, d2])
      exact good _ (by rw [← hr0, if_neg (fun h => h.2 k2)])
    · have d2 := decide_eq_false k2
      (refine W_at c13_ok ?_; refine ⟨_, rfl, ?_⟩; simp (disch := first | omega | assumption | rfl | (simp only [vcS] <;> omega) | fail) only [↓vcA, vcB, ↓reduceIte, Nat.reduceEqDiff, reduceCtorEq, Option.bind_some, e1, e2, n1, n2, d1, d2])
      exact bad _ (by rw [← hr0, if_pos ⟨k1, k2⟩])
set_option maxHeartbeats 1000000 in
theorem from_ok (w : World) (s : List Int) (hb : byt s) (hm : s.length ≤ maxLen) :
    Calls Tryd.prog 13 #[.string (strOf s)] w (Ret fun u w' => ReadTo w w' (fromE s) u) := by
  refine calls_of_cfg c13_ok (Nat.le_of_ble_eq_true rfl) ?_
  simp only [argE_nil, argE_cons, Nat.zero_add]
  have hsz := str_size s
  (refine W_at c13_ok ?_; refine ⟨_, rfl, ?_⟩; simp (disch := first | omega | assumption | rfl | (simp only [vcS] <;> omega) | fail) only [↓vcA, vcB, ↓reduceIte, reduceCtorEq])
  by_cases h90 : 90 < s.length
  · have k1 : (90 : Int) < (s.length : Int) := by omega
    rw [fromE, if_pos h90]
    (refine W_at c13_ok ?_; refine ⟨_, rfl, ?_⟩; simp (disch := first | omega | assumption | rfl | (simp only [vcS] <;> omega) | fail) only [↓vcA, vcB, ↓reduceIte, reduceCtorEq, Option.bind_some, hsz, k1])
    (refine W_at c13_ok ?_; refine ⟨_, rfl, ?_⟩; simp (disch := first | omega | assumption | rfl | (simp only [vcS] <;> omega) | fail) only [↓vcA, vcB, ↓reduceIte, reduceCtorEq])
    (refine W_at c13_ok ?_; refine ⟨_, rfl, ?_⟩; simp (disch := first | omega | assumption | rfl | (simp only [vcS] <;> omega) | fail) only [↓vcA, vcB, ↓reduceIte, Nat.reduceEqDiff])
    (refine W_at c13_ok ?_; refine ⟨_, rfl, ?_⟩; simp (disch := first | omega | assumption | rfl | (simp only [vcS] <;> omega) | fail) only [↓vcA, vcB, ↓reduceIte, Nat.reduceEqDiff, Option.bind_some, Option.map_some, Ret_returned])
    exact noRead_to w 2
  have k1 : ¬ (90 : Int) < (s.length : Int) := by omega
  rw [fromE, if_neg h90]
  (refine W_at c13_ok ?_; refine ⟨_, rfl, ?_⟩; simp (disch := first | omega | assumption | rfl | (simp only [vcS] <;> omega) | fail) only [↓vcA, vcB, ↓reduceIte, reduceCtorEq, Option.bind_some, hsz, k1])
  (refine W_at c13_ok ?_; refine ⟨_, rfl, ?_⟩; simp (disch := first | omega | assumption | rfl | (simp only [vcS] <;> omega) | fail) only [↓vcA, vcB, ↓reduceIte, reduceCtorEq])
  (refine W_at c13_ok ?_; refine ⟨_, rfl, ?_⟩; simp (disch := first | omega | assumption | rfl | (simp only [vcS] <;> omega) | fail) only [↓vcL1, ↓vcA, vcB, ↓reduceIte, Option.bind_some, Option.map_some])
  refine callV_ret (plain_ok w s hb (by omega)) ?_
  rintro _ w1 ⟨rfl, hE1⟩
  obtain ⟨hpb, hpl⟩ := plain_fine (s := s)
  generalize plainE s = pp at *
  obtain ⟨t, ok⟩ := pp
  simp only at hpb hpl
  have hst := str_size t
  simp (disch := first | omega | assumption | rfl | (simp only [vcS] <;> omega) | fail) only [ptS1_eq, ↓vcA, vcB, ↓reduceIte, Nat.reduceEqDiff, reduceCtorEq, Option.bind_some, List.getElem?_toArray, List.getElem?_cons_zero, List.getElem?_cons_succ]
  (refine W_at c13_ok ?_; refine ⟨_, rfl, ?_⟩; simp (disch := first | omega | assumption | rfl | (simp only [vcS] <;> omega) | fail) only [↓vcL1, ↓vcA, vcB, ↓reduceIte, Option.bind_some, Option.map_some])
  refine callV_ret (last_ok w1 t hpb (by omega)) ?_
  rintro _ wq ⟨rfl, hw⟩
  obtain rfl : w1 = wq := hw.symm
  simp (disch := first | omega | assumption | rfl | (simp only [vcS] <;> omega) | fail) only [ptS1_eq, ↓vcA, vcB, ↓reduceIte, Nat.reduceEqDiff, reduceCtorEq]
  have bad : ∀ tl, fromP (t, ok) = noRead 3 → W Tryd.prog (Ret fun u w' => ReadTo w w' (fromP (t, ok)) u) 13 22 ((0, .string (strOf t)) :: (7, .int .i64 (lastF t 0)) :: (35, .bool true) :: tl) w1 := fun tl hR => by
    rw [hR]
    (refine W_at c13_ok ?_; refine ⟨_, rfl, ?_⟩; simp (disch := first | omega | assumption | rfl | (simp only [vcS] <;> omega) | fail) only [↓vcA, vcB, ↓reduceIte, Nat.reduceEqDiff, reduceCtorEq])
    (refine W_at c13_ok ?_; refine ⟨_, rfl, ?_⟩; simp (disch := first | omega | assumption | rfl | (simp only [vcS] <;> omega) | fail) only [↓vcA, vcB, ↓reduceIte, Nat.reduceEqDiff])
    (refine W_at c13_ok ?_; refine ⟨_, rfl, ?_⟩; simp (disch := first | omega | assumption | rfl | (simp only [vcS] <;> omega) | fail) only [↓vcA, vcB, ↓reduceIte, Nat.reduceEqDiff, Option.bind_some, Option.map_some, Ret_returned])
    exact noRead_ext hE1 3
  have hlb : -1 ≤ lastF t 0 ∧ lastF t 0 < t.length + 1 := by
    rcases lastF_spec t 0 with ⟨h, _⟩ | ⟨i, h1, h2, _⟩ <;> omega
  have c1 : IntKind.i64.wrap ((t.length : Int) - lastF t 0) = (t.length : Int) - lastF t 0 := wrap_i64 (by omega) (by omega)
  have c2 : IntKind.i64.wrap ((t.length : Int) - lastF t 0 - 1) = (t.length : Int) - lastF t 0 - 1 := wrap_i64 (by omega) (by omega)
  cases ok with
  | false =>
    (refine W_at c13_ok ?_; refine ⟨_, rfl, ?_⟩; simp (disch := first | omega | assumption | rfl | (simp only [vcS] <;> omega) | fail) only [↓vcA, vcB, ↓reduceIte, Nat.reduceEqDiff, reduceCtorEq, Option.bind_some])
    exact bad _ (by rw [fromP, if_pos (.inl rfl)])
  | true =>
  by_cases a1 : lastF t 0 < 1
  · (refine W_at c13_ok ?_; refine ⟨_, rfl, ?_⟩; simp (disch := first | omega | assumption | rfl | (simp only [vcS] <;> omega) | fail) only [↓vcA, vcB, ↓reduceIte, Nat.reduceEqDiff, reduceCtorEq, Option.bind_some, a1])
    exact bad _ (by rw [fromP, if_pos (.inr (.inl a1))])
  by_cases a2 : (t.length : Int) - lastF t 0 - 1 < 6
  · (refine W_at c13_ok ?_; refine ⟨_, rfl, ?_⟩; simp (disch := first | omega | assumption | rfl | (simp only [vcS] <;> omega) | fail) only [↓vcA, vcB, ↓reduceIte, Nat.reduceEqDiff, reduceCtorEq, Option.bind_some, a1, hst, c1, c2, a2])
    exact bad _ (by rw [fromP, if_pos (.inr (.inr a2))])
  clear bad
  have hP : fromP (t, true) = readV (t.take (lastF t 0).toNat) (valsF (t.drop ((lastF t 0).toNat + 1))) := by
    rw [fromP, if_neg]
    rintro (h | h | h)
    · cases h
    · exact a1 h
    · exact a2 h
  rw [hP]
  (refine W_at c13_ok ?_; refine ⟨_, rfl, ?_⟩; simp (disch := first | omega | assumption | rfl | (simp only [vcS] <;> omega) | fail) only [↓vcA, vcB, ↓reduceIte, Nat.reduceEqDiff, reduceCtorEq, Option.bind_some, a1, hst, c1, c2, a2])
  obtain ⟨a, ha⟩ : ∃ a : Nat, lastF t 0 = (a : Int) := ⟨(lastF t 0).toNat, by omega⟩
  rw [ha] at hlb c1 c2 a1 a2 ⊢
  rw [Int.toNat_natCast]
  have hwa : IntKind.i64.wrap ((a : Int) + 1) = ((a + 1 : Nat) : Int) := wrap_i64 (by omega) (by omega)
  have hVl : (valsF (t.drop (a + 1))).length = t.length - (a + 1) := by rw [valsF, List.length_map, List.length_drop]
  have hvb := vals_b (l := t.drop (a + 1))
  (refine W_at c13_ok ?_; refine ⟨_, rfl, ?_⟩; simp (disch := first | omega | assumption | rfl | (simp only [vcS] <;> omega) | fail) only [↓vcA, vcB, ↓reduceIte, Nat.reduceEqDiff, reduceCtorEq])
  (refine W_at c13_ok ?_; refine ⟨_, rfl, ?_⟩; simp (disch := first | omega | assumption | rfl | (simp only [vcS] <;> omega) | fail) only [↓vcA, vcB, ↓reduceIte, Nat.reduceEqDiff, reduceCtorEq])
  (refine W_at c13_ok ?_; refine ⟨_, rfl, ?_⟩; simp (disch := first | omega | assumption | rfl | (simp only [vcS] <;> omega) | fail) only [↓vcA, vcB, ↓reduceIte, Nat.reduceEqDiff, reduceCtorEq, Option.bind_some, hwa])
  have L : ∀ (k j : Nat) (wj : World) (vb : Value) (tl : Env), k + j = t.length - (a + 1) → New w1 wj vb ((valsF (t.drop (a + 1))).take j) → five ((valsF (t.drop (a + 1))).take j) →
      W Tryd.prog (Ret fun u w' => ReadTo w w' (readV (t.take a) (valsF (t.drop (a + 1)))) u) 13 17 ((0, .string (strOf t)) :: (7, .int .i64 a) :: (8, vb) :: (9, .int .i64 ((a + 1 + j : Nat) : Int)) :: tl) wj := by
    intro k
    induction k with
    | zero =>
      intro j wj vb tl hi hB h5
      have hil : ¬ (((a + 1 + j : Nat) : Int) < (t.length : Int)) := by omega
      rw [List.take_of_length_le (by omega)] at hB h5
      (refine W_at c13_ok ?_; refine ⟨_, rfl, ?_⟩; simp (disch := first | omega | assumption | rfl | (simp only [vcS] <;> omega) | fail) only [↓vcA, vcB, ↓reduceIte, Nat.reduceEqDiff, reduceCtorEq, Option.bind_some, hst, hil])
      (refine W_at c13_ok ?_; refine ⟨_, rfl, ?_⟩; simp (disch := first | omega | assumption | rfl | (simp only [vcS] <;> omega) | fail) only [↓vcA, vcB, ↓reduceIte, Nat.reduceEqDiff, reduceCtorEq])
      exact read_sum w wj t a _ vb _ _ hpb (by omega) (by omega) (hE1.ext hB.ext) hB.own.rd h5 (by omega)
    | succ k ih =>
      intro j wj vb tl hi hB h5
      have hil : ((a + 1 + j : Nat) : Int) < (t.length : Int) := by omega
      have h0 : 0 ≤ ((a + 1 + j : Nat) : Int) := by omega
      have hwi : IntKind.i64.wrap (((a + 1 + j : Nat) : Int) + 1) = ((a + 1 + (j + 1) : Nat) : Int) := by rw [wrap_i64 (by omega) (by omega)]; omega
      have g1 := str_get (bs := t) (i := a + 1 + j) (by omega)
      have u1 := u8i (hpb t[a + 1 + j] (List.getElem_mem _))
      have b1 := hpb t[a + 1 + j] (List.getElem_mem _)
      have hp : (valsF (t.drop (a + 1)))[j]? = some (placeF t[a + 1 + j] l32S 0) := by
        rw [valsF, List.getElem?_map, List.getElem?_drop, List.getElem?_eq_getElem (by omega)]; rfl
      have htk : (valsF (t.drop (a + 1))).take (j + 1) = (valsF (t.drop (a + 1))).take j ++ [placeF t[a + 1 + j] l32S 0] := by
        rw [List.take_add_one, hp]; rfl
      have hmem : placeF t[a + 1 + j] l32S 0 ∈ valsF (t.drop (a + 1)) := List.mem_of_getElem? hp
      have hpv := hvb _ hmem
      have hih := ih (j + 1)
      rw [htk] at hih
      have hjl : ((valsF (t.drop (a + 1))).take j).length ≤ 1000 := by rw [List.length_take]; omega
      clear htk hp
      (refine W_at c13_ok ?_; refine ⟨_, rfl, ?_⟩; simp (disch := first | omega | assumption | rfl | (simp only [vcS] <;> omega) | fail) only [↓vcA, vcB, ↓reduceIte, Nat.reduceEqDiff, reduceCtorEq, Option.bind_some, hst, hil])
      (refine W_at c13_ok ?_; refine ⟨_, rfl, ?_⟩; simp (disch := first | omega | assumption | rfl | (simp only [vcS] <;> omega) | fail) only [↓vcA, vcB, ↓reduceIte, Nat.reduceEqDiff, reduceCtorEq])
      (refine W_at c13_ok ?_; refine ⟨_, rfl, ?_⟩; simp (disch := first | omega | assumption | rfl | (simp only [vcS] <;> omega) | fail) only [↓vcL1, ↓vcA, vcB, ↓reduceIte, Nat.reduceEqDiff, reduceCtorEq, Option.bind_some, Option.map_some, h0, Int.toNat_natCast, g1, u1, l32S_is])
      generalize t[a + 1 + j] = x at *
      refine callV_ret (index_ok wj l32S x l32S_byt b1) ?_
      rintro _ wq ⟨rfl, hw⟩
      obtain rfl : wj = wq := hw.symm
      simp (disch := first | omega | assumption | rfl | (simp only [vcS] <;> omega) | fail) only [ptS1_eq, ↓vcA, vcB, ↓reduceIte, Nat.reduceEqDiff, reduceCtorEq]
      generalize placeF x l32S 0 = p at *
      by_cases hneg : p < 0
      · have hR : readV (t.take a) (valsF (t.drop (a + 1))) = noRead 3 := by
          rw [readV, if_pos (List.any_eq_true.2 ⟨p, hmem, decide_eq_true hneg⟩)]
        rw [hR]
        (refine W_at c13_ok ?_; refine ⟨_, rfl, ?_⟩; simp (disch := first | omega | assumption | rfl | (simp only [vcS] <;> omega) | fail) only [↓vcA, vcB, ↓reduceIte, Nat.reduceEqDiff, reduceCtorEq, Option.bind_some, hneg])
        (refine W_at c13_ok ?_; refine ⟨_, rfl, ?_⟩; simp (disch := first | omega | assumption | rfl | (simp only [vcS] <;> omega) | fail) only [↓vcA, vcB, ↓reduceIte, Nat.reduceEqDiff, reduceCtorEq])
        (refine W_at c13_ok ?_; refine ⟨_, rfl, ?_⟩; simp (disch := first | omega | assumption | rfl | (simp only [vcS] <;> omega) | fail) only [↓vcA, vcB, ↓reduceIte, Nat.reduceEqDiff])
        (refine W_at c13_ok ?_; refine ⟨_, rfl, ?_⟩; simp (disch := first | omega | assumption | rfl | (simp only [vcS] <;> omega) | fail) only [↓vcA, vcB, ↓reduceIte, Nat.reduceEqDiff, Option.bind_some, Option.map_some, Ret_returned])
        exact noRead_ext (hE1.ext hB.ext) 3
      · have w8 : IntKind.u8.wrap p = p := by rw [wrap_u8]; omega
        (refine W_at c13_ok ?_; refine ⟨_, rfl, ?_⟩; simp (disch := first | omega | assumption | rfl | (simp only [vcS] <;> omega) | fail) only [↓vcA, vcB, ↓reduceIte, Nat.reduceEqDiff, reduceCtorEq, Option.bind_some, hneg])
        (refine W_at c13_ok ?_; refine ⟨_, rfl, ?_⟩; simp (disch := first | omega | assumption | rfl | (simp only [vcS] <;> omega) | fail) only [↓vcA, vcB, ↓reduceIte, Nat.reduceEqDiff, reduceCtorEq])
        (refine W_at c13_ok ?_; refine ⟨_, rfl, ?_⟩; simp (disch := first | omega | assumption | rfl | (simp only [vcS] <;> omega) | fail) only [↓ptV_l, ↓vcA, vcB, ↓reduceIte, Nat.reduceEqDiff, reduceCtorEq, Option.bind_some, Option.map_some, List.length_cons, List.length_nil, vcM, w8])
        refine appNL (news := [p]) hB (by simp only [List.length_cons, List.length_nil]; omega) fun v' w' n1 _ _ => ?_
        (refine W_at c13_ok ?_; refine ⟨_, rfl, ?_⟩; simp (disch := first | omega | assumption | rfl | (simp only [vcS] <;> omega) | fail) only [↓vcA, vcB, ↓reduceIte, Nat.reduceEqDiff, reduceCtorEq, Option.bind_some, hwi])
        (refine W_at c13_ok ?_; refine ⟨_, rfl, ?_⟩; simp (disch := first | omega | assumption | rfl | (simp only [vcS] <;> omega) | fail) only [vcB])
        exact hih w' v' _ (by omega) n1 (five_app h5 fun y hy => by rw [List.mem_singleton.1 hy]; omega)
  exact L (t.length - (a + 1)) 0 w1 _ _ (by omega) (New.nil w1) (fun v hv => by simp at hv)
end Go.Proofs
namespace Go.Proofs
open Go.Vc
set_option maxRecDepth 10000

theorem okH_all {h : List Int} (hk : okH h = true) : ∀ x ∈ h, okc x = true := fun x hx => List.all_eq_true.1 hk x hx
theorem sumL_len (h d : List Int) (m : Bool) : (sumL h d m).length = 6 := by simp [sumL, lettersF]
/-- What may be written. -/
structure Fit (h d : List Int) : Prop where
  byt : byt h
  ne : h ≠ []
  ok : okH h = true
  five : five d
  len : h.length + 1 + d.length + 6 ≤ 90
theorem no_neg {us : List Int} (h : five us) : ¬ us.any (fun v => decide (v < 0)) = true := by
  intro ha
  obtain ⟨x, hx, hx2⟩ := List.any_eq_true.1 ha
  have := h x hx
  simp at hx2; omega
/-! ### One letter -/
end Go.Proofs
namespace Go.Proofs
open Go.Vc
set_option maxRecDepth 10000

theorem args_2 {args : Array Value} (h : args.size = 2) : ∃ v u, args = #[v, u] := by
  obtain ⟨l⟩ := args
  match l, h with
  | [v, u], _ => exact ⟨v, u, rfl⟩
end Go.Proofs
namespace Go.Proofs.YtajkhimlpnebdaaDoor
open Go.Vc Go.ChangeShapes Go.WideShapes Go.ChangeAt Go.RowKit Go.Proofs
theorem Tryd.own : ownKnob Tryd.prog.godebug = none := by kernel_rfl
theorem Tryd.laidOut : laidOutB Tryd.prog = true := by kernel_rfl
abbrev laid3 : List (String × DataW Unit) := Rows.textBechRow.laid
set_option maxRecDepth 100000 in
theorem laid3_met (os : Os) (args : Array Value) : laidMetH Tryd.prog laid3 ((World.laidAll Tryd.prog os laid3).forCall (fun _ _ => 0) ⟨#[], args, []⟩).memory := by
  rw [MakeChecks.laidMetH_plain _ _ _ (by kernel_rfl)]
  exact laidMet_laidAll _ (by kernel_rfl) (by kernel_rfl)
theorem str_arg {P : Program} {W : World} {t : TypeId} {v : Value} {m : Nat} (ht : tyOf P m t = some (.cons .str .nil)) (hu : P.underlying t = some .string) (h : ArgLies P W t v) : ∃ s, v = .string (strOf s) ∧ byt s ∧ s.length ≤ maxLen := by
  obtain ⟨x, rfl, hx⟩ := argStr ht hu h
  obtain ⟨s, hs, rfl⟩ := str_of x
  exact ⟨s, rfl, hs, by rw [str_size] at hx; exact hx⟩
end Go.Proofs.YtajkhimlpnebdaaDoor
namespace Go.Proofs
open Go.Vc
set_option maxRecDepth 10000

theorem U64_quoG (y : BitVec 64) : binR .quo (U64 y) (.int .u64 33554432) = some (U64 (y / 33554432#64)) := U64_quo y 33554432#64 (by decide)
theorem U64_remG (y : BitVec 64) : binR .rem (U64 y) (.int .u64 33554432) = some (U64 (y % 33554432#64)) := U64_rem y 33554432#64 (by decide)
theorem quoG_is (y : BitVec 64) : y / 33554432#64 = y >>> 25 := by
  apply BitVec.eq_of_toNat_eq
  rw [BitVec.toNat_udiv, BitVec.toNat_ushiftRight, Nat.shiftRight_eq_div_pow]
  rfl
theorem remG_is (y : BitVec 64) : y % 33554432#64 * 32#64 = (y &&& maskG) <<< 5 := by
  apply BitVec.eq_of_toNat_eq
  rw [shl_maskG, BitVec.toNat_mul, BitVec.toNat_umod]
  have e1 : (33554432#64).toNat = 2 ^ 25 := by decide
  have e2 : (32#64).toNat = 32 := by decide
  rw [e1, e2]
  omega
theorem step_ok (w : World) (c : BitVec 64) (v : Int) (hv : 0 ≤ v ∧ v < 256) :
    Calls Tryd.prog 47 #[U64 c, .int .u8 v] w (Ret fun u w' => u = U64 (stepB 25 bechG c v) ∧ Ext w w') := by
  refine calls_of_cfg c47_ok (Nat.le_of_ble_eq_true rfl) ?_
  simp only [argE_nil, argE_cons, Nat.reduceAdd, Nat.zero_add]
  have h5 : (#[Value.int .u64 996825010] ++ (#[Value.int .u64 642813549] ++ (#[Value.int .u64 513874426] ++ #[Value.int .u64 1027748829, Value.int .u64 705979059])) : Array Value).size = 5 := rfl
  have e : (#[Value.int .u64 996825010] ++ (#[Value.int .u64 642813549] ++ (#[Value.int .u64 513874426] ++ #[Value.int .u64 1027748829, Value.int .u64 705979059])) : Array Value) = (bechG.map U64).toArray := by kernel_rfl
  have hz : (zc [(5, Value.int .u64 0)]).size = 5 := by simp [size_zc]
  have hs : (bechG.map U64).toArray.size = 5 := rfl
  have hf : flat (bechG.map U64).toArray := by intro x hx; simp at hx; obtain ⟨y, _, rfl⟩ := hx; rfl
  have hb := u64_int hv
  (refine W_at c47_ok ?_; refine ⟨_, rfl, ?_⟩; simp (disch := first | omega | assumption | rfl | (simp only [vcS] <;> omega) | fail) only [↓vcA, vcB, ↓reduceIte, Nat.reduceEqDiff, reduceCtorEq])
  (refine W_at c47_ok ?_; refine ⟨_, rfl, ?_⟩; simp (disch := first | omega | assumption | rfl | (simp only [vcS] <;> omega) | fail) only [↓ptV_l, ↓vcA, vcB, ↓reduceIte, Nat.reduceEqDiff, reduceCtorEq, Option.bind_some, Option.map_some, vcM, hz, e, hs])
  refine ⟨hf, ?_⟩
  have hE : Ext w ((w.alloc (.cells (zc [(5, .int .u64 0)]) 53)).putN w.heap.size 0 (bechG.map U64).toArray) := by (repeat' first | exact Keep.refl _ _ | assumption | refine Keep.drew ?_ | refine Keep.alloc ?_ _ | refine Keep.putN ?_ _ ?_ | refine Keep.setCell ?_ _ ?_ | refine Keep.setO ?_ _ ?_ | exact fun _ => Or.inl rfl | exact fun _ => Or.inr rfl | exact fun _ => rfl | (intro hh; exfalso; ((try simp only [vcS] at hh) <;> omega)))
  have hp : ((w.alloc (.cells (zc [(5, .int .u64 0)]) 53)).putN w.heap.size 0 (bechG.map U64).toArray).heap[w.heap.size]? = some (.cells (bechG.map U64).toArray 53 (0, 0)) := by
    rw [heap_putN_eq (heap_new _ _ _ rfl), splice_all (by rw [hs, hz])]
  generalize World.putN _ _ _ _ = w1 at hE hp ⊢
  generalize w.heap.size = p5 at hp ⊢
  (refine W_at c47_ok ?_; refine ⟨_, rfl, ?_⟩; simp (disch := first | omega | assumption | rfl | (simp only [vcS] <;> omega) | fail) only [↓vcA, vcB, ↓reduceIte, Nat.reduceEqDiff, reduceCtorEq, Option.bind_some, U64_quoG])
  (refine W_at c47_ok ?_; refine ⟨_, rfl, ?_⟩; simp (disch := first | omega | assumption | rfl | (simp only [vcS] <;> omega) | fail) only [↓vcA, vcB, ↓reduceIte, Nat.reduceEqDiff, reduceCtorEq, Option.bind_some, U64_remG, U64_mul32, hb, U64_xor])
  (refine W_at c47_ok ?_; refine ⟨_, rfl, ?_⟩; simp (disch := first | omega | assumption | rfl | (simp only [vcS] <;> omega) | fail) only [↓vcA, vcB, ↓reduceIte, Nat.reduceEqDiff, reduceCtorEq])
  rw [quoG_is, remG_is]
  have L : ∀ (gl : List (BitVec 64)) (j : Nat) (d : BitVec 64) (tl : Env), bechG.drop j = gl → j ≤ 5 → mixF gl j (c >>> 25) d = stepB 25 bechG c v →
      W Tryd.prog (Ret fun u w' => u = U64 (stepB 25 bechG c v) ∧ Ext w w') 47 10 ((0, U64 d) :: (5, .pointer (some ⟨p5, 0, none⟩)) :: (6, U64 ((c >>> 25) >>> j)) :: (7, .int .i64 j) :: tl) w1 := by
    intro gl
    induction gl with
    | nil =>
      intro j d tl hgj hj hm
      have hj5 : ¬ ((j : Int) < 5) := by
        have := List.drop_eq_nil_iff.1 hgj
        have hl : bechG.length = 5 := rfl
        omega
      (refine W_at c47_ok ?_; refine ⟨_, rfl, ?_⟩; simp (disch := first | omega | assumption | rfl | (simp only [vcS] <;> omega) | fail) only [↓vcA, vcB, ↓reduceIte, Nat.reduceEqDiff, reduceCtorEq, Option.bind_some, hj5])
      (refine W_at c47_ok ?_; refine ⟨_, rfl, ?_⟩; simp (disch := first | omega | assumption | rfl | (simp only [vcS] <;> omega) | fail) only [↓vcA, vcB, ↓reduceIte, Nat.reduceEqDiff, reduceCtorEq])
      (refine W_at c47_ok ?_; refine ⟨_, rfl, ?_⟩; simp (disch := first | omega | assumption | rfl | (simp only [vcS] <;> omega) | fail) only [↓vcA, vcB, ↓reduceIte])
      (refine W_at c47_ok ?_; refine ⟨_, rfl, ?_⟩; simp (disch := first | omega | assumption | rfl | (simp only [vcS] <;> omega) | fail) only [↓vcA, vcB, ↓reduceIte, Option.bind_some, Option.map_some, Ret_returned])
      have hm' : d = stepB 25 bechG c v := hm
      exact ⟨by rw [hm'], hE⟩
    | cons y gl ih =>
      intro j d tl hgj hj hm
      have hl : bechG.length = 5 := rfl
      have hjl : j < bechG.length := by
        rcases Nat.lt_or_ge j bechG.length with h | h
        · exact h
        · rw [List.drop_eq_nil_of_le h] at hgj; cases hgj
      rw [List.drop_eq_getElem_cons hjl] at hgj
      obtain ⟨hy, hrest⟩ := List.cons.inj hgj
      have hj5 : (j : Int) < 5 := by omega
      have hj2 : 0 ≤ (j : Int) ∧ (j : Int) < 5 := by omega
      have hgj2 : (bechG.map U64).toArray[j]? = some (U64 y) := by simp [hjl, hy]
      have hwj : IntKind.i64.wrap ((j : Int) + 1) = ((j + 1 : Nat) : Int) := wrap_i64 (by omega) (by omega)
      have hh := half_is (c >>> 25) j
      simp only [mixF] at hm
      (refine W_at c47_ok ?_; refine ⟨_, rfl, ?_⟩; simp (disch := first | omega | assumption | rfl | (simp only [vcS] <;> omega) | fail) only [↓vcA, vcB, ↓reduceIte, Nat.reduceEqDiff, reduceCtorEq, Option.bind_some, hj5])
      (refine W_at c47_ok ?_; refine ⟨_, rfl, ?_⟩; simp (disch := first | omega | assumption | rfl | (simp only [vcS] <;> omega) | fail) only [↓vcA, vcB, ↓reduceIte, Nat.reduceEqDiff, reduceCtorEq])
      by_cases hbit : ((c >>> 25) >>> j) &&& 1#64 = 1#64
      · have hbd : decide (((c >>> 25) >>> j) % 2#64 = 1#64) = true := decide_eq_true ((odd_is _).2 hbit)
        rw [if_pos hbit] at hm
        (refine W_at c47_ok ?_; refine ⟨_, rfl, ?_⟩; simp (disch := first | omega | assumption | rfl | (simp only [vcS] <;> omega) | fail) only [↓vcA, vcB, ↓reduceIte, Nat.reduceEqDiff, reduceCtorEq, Option.bind_some, U64_rem2, U64_eql1, hbd])
        (refine W_at c47_ok ?_; refine ⟨_, rfl, ?_⟩; simp (disch := first | omega | assumption | rfl | (simp only [vcS] <;> omega) | fail) only [↓vcA, vcB, ↓reduceIte, Nat.reduceEqDiff, reduceCtorEq])
        (refine W_at c47_ok ?_; refine ⟨_, rfl, ?_⟩; simp (disch := first | omega | assumption | rfl | (simp only [vcS] <;> omega) | fail) only [↓vcA, vcB, ↓reduceIte, Nat.reduceEqDiff, reduceCtorEq, Option.bind_some, vcM, hj2, hp, hgj2, Int.toNat_natCast, Nat.mul_one, U64_xor])
        (refine W_at c47_ok ?_; refine ⟨_, rfl, ?_⟩; simp (disch := first | omega | assumption | rfl | (simp only [vcS] <;> omega) | fail) only [↓vcA, vcB, ↓reduceIte, Nat.reduceEqDiff, reduceCtorEq, Option.bind_some, U64_quo2, hh])
        (refine W_at c47_ok ?_; refine ⟨_, rfl, ?_⟩; simp (disch := first | omega | assumption | rfl | (simp only [vcS] <;> omega) | fail) only [↓vcA, vcB, ↓reduceIte, Nat.reduceEqDiff, reduceCtorEq, Option.bind_some, hwj])
        (refine W_at c47_ok ?_; refine ⟨_, rfl, ?_⟩; simp (disch := first | omega | assumption | rfl | (simp only [vcS] <;> omega) | fail) only [vcB])
        exact ih (j + 1) _ _ hrest (by omega) hm
      · have hbd : decide (((c >>> 25) >>> j) % 2#64 = 1#64) = false := decide_eq_false fun h => hbit ((odd_is _).1 h)
        rw [if_neg hbit] at hm
        (refine W_at c47_ok ?_; refine ⟨_, rfl, ?_⟩; simp (disch := first | omega | assumption | rfl | (simp only [vcS] <;> omega) | fail) only [↓vcA, vcB, ↓reduceIte, Nat.reduceEqDiff, reduceCtorEq, Option.bind_some, U64_rem2, U64_eql1, hbd])
        (refine W_at c47_ok ?_; refine ⟨_, rfl, ?_⟩; simp (disch := first | omega | assumption | rfl | (simp only [vcS] <;> omega) | fail) only [↓vcA, vcB, ↓reduceIte, Nat.reduceEqDiff, reduceCtorEq])
        (refine W_at c47_ok ?_; refine ⟨_, rfl, ?_⟩; simp (disch := first | omega | assumption | rfl | (simp only [vcS] <;> omega) | fail) only [↓vcA, vcB, ↓reduceIte, Nat.reduceEqDiff, reduceCtorEq, Option.bind_some, U64_quo2, hh])
        (refine W_at c47_ok ?_; refine ⟨_, rfl, ?_⟩; simp (disch := first | omega | assumption | rfl | (simp only [vcS] <;> omega) | fail) only [↓vcA, vcB, ↓reduceIte, Nat.reduceEqDiff, reduceCtorEq, Option.bind_some, hwj])
        (refine W_at c47_ok ?_; refine ⟨_, rfl, ?_⟩; simp (disch := first | omega | assumption | rfl | (simp only [vcS] <;> omega) | fail) only [vcB])
        exact ih (j + 1) _ _ hrest (by omega) hm
  have h0 := L bechG 0 _ [] rfl (by omega) (by rfl)
  simp only [BitVec.ushiftRight_zero] at h0
  exact h0

theorem quo_u8 {x : Int} (h : 0 ≤ x ∧ x ≤ 255) : x.tdiv 32 = x / 32 ∧ IntKind.u8.wrap (x / 32) = x / 32 ∧ x.tmod 32 = x % 32 := by
  refine ⟨Int.tdiv_eq_ediv_of_nonneg h.1, ?_, Int.tmod_eq_emod_of_nonneg h.1⟩
  rw [wrap_u8]; omega
theorem rG_step (c : BitVec 64) (v : Int) (l : List Int) : rG (stepB 25 bechG c v) l = rG c (v :: l) := rfl
set_option maxHeartbeats 1000000 in
theorem rsum_ok (w : World) (h d : List Int) (v : Value) (hb : byt h) (hl : h.length ≤ 1000) (hd : Rd w v d) (hdb : byt d) (hdl : d.length ≤ 1000) :
    Calls Tryd.prog 30 #[.string (strOf h), v] w (Ret fun u w' => u = U64 (runB 25 bechG (spreadF h ++ d)) ∧ Ext w w') := by
  refine calls_of_cfg c30_ok (Nat.le_of_ble_eq_true rfl) ?_
  simp only [argE_nil, argE_cons, Nat.reduceAdd, Nat.zero_add]
  have hsz := str_size h
  have e1 : Value.int .u64 1 = U64 1#64 := rfl
  have hF : runB 25 bechG (spreadF h ++ d) = rG 1#64 (h.map (· / 32) ++ 0 :: (h.map (· % 32) ++ d)) := by
    show rG _ _ = _
    simp [spreadF]
  rw [hF]
  -- the values
  have L3 : ∀ (k i : Nat) (c R : BitVec 64) (wj : World) (tl : Env), k + i = d.length → Ext w wj → rG c (d.drop i) = R →
      W Tryd.prog (Ret fun u w' => u = U64 R ∧ Ext w w') 30 7 ((1, v) :: (5, U64 c) :: (8, .int .i64 (i : Int)) :: tl) wj := by
    intro k
    induction k with
    | zero =>
      intro i c R wj tl hi hE hc
      have hlen := (hd.ext hE).len
      have hil : ¬ ((i : Int) < (d.length : Int)) := by omega
      rw [List.drop_eq_nil_of_le (by omega)] at hc
      have hc : c = R := hc
      subst hc
      (refine W_at c30_ok ?_; refine ⟨_, rfl, ?_⟩; simp (disch := first | omega | assumption | rfl | (simp only [vcS] <;> omega) | fail) only [↓vcA, vcB, ↓reduceIte, Nat.reduceEqDiff, Option.bind_some, hlen, hil])
      (refine W_at c30_ok ?_; refine ⟨_, rfl, ?_⟩; simp (disch := first | omega | assumption | rfl | (simp only [vcS] <;> omega) | fail) only [↓vcA, vcB, ↓reduceIte, Nat.reduceEqDiff])
      (refine W_at c30_ok ?_; refine ⟨_, rfl, ?_⟩; simp (disch := first | omega | assumption | rfl | (simp only [vcS] <;> omega) | fail) only [↓vcA, vcB, ↓reduceIte, Nat.reduceEqDiff])
      (refine W_at c30_ok ?_; refine ⟨_, rfl, ?_⟩; simp (disch := first | omega | assumption | rfl | (simp only [vcS] <;> omega) | fail) only [↓vcA, vcB, ↓reduceIte, Option.bind_some, Option.map_some, Ret_returned])
      first | exact hE | exact ⟨rfl, hE⟩
    | succ k ih =>
      intro i c R wj tl hi hE hc
      have hlen := (hd.ext hE).len
      have hil : (i : Int) < (d.length : Int) := by omega
      have hi2 : 0 ≤ (i : Int) ∧ (i : Int) < (d.length : Int) := by omega
      have hwi : IntKind.i64.wrap ((i : Int) + 1) = ((i + 1 : Nat) : Int) := wrap_i64 (by omega) (by omega)
      obtain ⟨b, o, cp, hv, hcell⟩ := (hd.ext hE).at (i := i) (by omega)
      have hx := hdb d[i] (List.getElem_mem _)
      rw [List.drop_eq_getElem_cons (by omega), ← rG_step] at hc
      subst hv
      (refine W_at c30_ok ?_; refine ⟨_, rfl, ?_⟩; simp (disch := first | omega | assumption | rfl | (simp only [vcS] <;> omega) | fail) only [↓vcA, vcB, ↓reduceIte, Nat.reduceEqDiff, Option.bind_some, hlen, hil])
      (refine W_at c30_ok ?_; refine ⟨_, rfl, ?_⟩; simp (disch := first | omega | assumption | rfl | (simp only [vcS] <;> omega) | fail) only [↓vcA, vcB, ↓reduceIte, Nat.reduceEqDiff])
      (refine W_at c30_ok ?_; refine ⟨_, rfl, ?_⟩; simp (disch := first | omega | assumption | rfl | (simp only [vcS] <;> omega) | fail) only [↓vcL1, ↓vcA, vcB, ↓reduceIte, Nat.reduceEqDiff, Option.bind_some, Option.map_some, vcM, hi2, hcell, Int.toNat_natCast, Nat.mul_one])
      generalize d[i] = x at *
      refine callV_ret (step_ok wj c x (by omega)) ?_
      rintro _ w2 ⟨rfl, hE2⟩
      simp (disch := first | omega | assumption | rfl | (simp only [vcS] <;> omega) | fail) only [ptS1_eq, ↓vcA, vcB, ↓reduceIte, Nat.reduceEqDiff]
      (refine W_at c30_ok ?_; refine ⟨_, rfl, ?_⟩; simp (disch := first | omega | assumption | rfl | (simp only [vcS] <;> omega) | fail) only [↓vcA, vcB, ↓reduceIte, Nat.reduceEqDiff, Option.bind_some, hwi])
      (refine W_at c30_ok ?_; refine ⟨_, rfl, ?_⟩; simp (disch := first | omega | assumption | rfl | (simp only [vcS] <;> omega) | fail) only [vcB])
      exact ih (i + 1) _ R w2 _ (by omega) (hE.ext hE2) hc
  -- the low bits
  have L2 : ∀ (k i : Nat) (c R : BitVec 64) (wj : World) (tl : Env), k + i = h.length → Ext w wj → rG c ((h.drop i).map (· % 32) ++ d) = R →
      W Tryd.prog (Ret fun u w' => u = U64 R ∧ Ext w w') 30 13 ((0, .string (strOf h)) :: (1, v) :: (5, U64 c) :: (7, .int .i64 (i : Int)) :: tl) wj := by
    intro k
    induction k with
    | zero =>
      intro i c R wj tl hi hE hc
      have hil : ¬ ((i : Int) < (h.length : Int)) := by omega
      rw [List.drop_eq_nil_of_le (by omega)] at hc
      (refine W_at c30_ok ?_; refine ⟨_, rfl, ?_⟩; simp (disch := first | omega | assumption | rfl | (simp only [vcS] <;> omega) | fail) only [↓vcA, vcB, ↓reduceIte, Nat.reduceEqDiff, reduceCtorEq, Option.bind_some, hsz, hil])
      (refine W_at c30_ok ?_; refine ⟨_, rfl, ?_⟩; simp (disch := first | omega | assumption | rfl | (simp only [vcS] <;> omega) | fail) only [↓vcA, vcB, ↓reduceIte, Nat.reduceEqDiff, reduceCtorEq])
      (refine W_at c30_ok ?_; refine ⟨_, rfl, ?_⟩; simp (disch := first | omega | assumption | rfl | (simp only [vcS] <;> omega) | fail) only [↓vcA, vcB, ↓reduceIte, Nat.reduceEqDiff, reduceCtorEq])
      exact L3 d.length 0 c R wj _ (by omega) hE hc
    | succ k ih =>
      intro i c R wj tl hi hE hc
      have hil : (i : Int) < (h.length : Int) := by omega
      have h0 : 0 ≤ (i : Int) := by omega
      have hwi : IntKind.i64.wrap ((i : Int) + 1) = ((i + 1 : Nat) : Int) := wrap_i64 (by omega) (by omega)
      have g1 := str_get (bs := h) (i := i) (by omega)
      have hx := hb h[i] (List.getElem_mem _)
      have u1 := u8i hx
      rw [List.drop_eq_getElem_cons (by omega), List.map_cons, List.cons_append, ← rG_step] at hc
      generalize h[i] = x at *
      obtain ⟨q1, q2, q3⟩ := quo_u8 hx
      have h32 : ¬ (32 : Int) = 0 := by decide
      (refine W_at c30_ok ?_; refine ⟨_, rfl, ?_⟩; simp (disch := first | omega | assumption | rfl | (simp only [vcS] <;> omega) | fail) only [↓vcA, vcB, ↓reduceIte, Nat.reduceEqDiff, reduceCtorEq, Option.bind_some, hsz, hil])
      (refine W_at c30_ok ?_; refine ⟨_, rfl, ?_⟩; simp (disch := first | omega | assumption | rfl | (simp only [vcS] <;> omega) | fail) only [↓vcA, vcB, ↓reduceIte, Nat.reduceEqDiff, reduceCtorEq])
      (refine W_at c30_ok ?_; refine ⟨_, rfl, ?_⟩; simp (disch := first | omega | assumption | rfl | (simp only [vcS] <;> omega) | fail) only [↓vcL1, ↓vcA, vcB, ↓reduceIte, Nat.reduceEqDiff, reduceCtorEq, Option.bind_some, Option.map_some, h0, Int.toNat_natCast, g1, u1, q3, h32])
      refine callV_ret (step_ok wj c (x % 32) (by omega)) ?_
      rintro _ w2 ⟨rfl, hE2⟩
      simp (disch := first | omega | assumption | rfl | (simp only [vcS] <;> omega) | fail) only [ptS1_eq, ↓vcA, vcB, ↓reduceIte, Nat.reduceEqDiff, reduceCtorEq]
      (refine W_at c30_ok ?_; refine ⟨_, rfl, ?_⟩; simp (disch := first | omega | assumption | rfl | (simp only [vcS] <;> omega) | fail) only [↓vcA, vcB, ↓reduceIte, Nat.reduceEqDiff, reduceCtorEq, Option.bind_some, hwi])
      (refine W_at c30_ok ?_; refine ⟨_, rfl, ?_⟩; simp (disch := first | omega | assumption | rfl | (simp only [vcS] <;> omega) | fail) only [vcB])
      exact ih (i + 1) _ R w2 _ (by omega) (hE.ext hE2) hc
  -- the high bits
  have L1 : ∀ (k i : Nat) (c R : BitVec 64) (wj : World) (tl : Env), k + i = h.length → Ext w wj → rG c ((h.drop i).map (· / 32) ++ 0 :: (h.map (· % 32) ++ d)) = R →
      W Tryd.prog (Ret fun u w' => u = U64 R ∧ Ext w w') 30 20 ((0, .string (strOf h)) :: (1, v) :: (5, U64 c) :: (6, .int .i64 (i : Int)) :: tl) wj := by
    intro k
    induction k with
    | zero =>
      intro i c R wj tl hi hE hc
      have hil : ¬ ((i : Int) < (h.length : Int)) := by omega
      rw [List.drop_eq_nil_of_le (by omega), List.map_nil, List.nil_append, ← rG_step] at hc
      (refine W_at c30_ok ?_; refine ⟨_, rfl, ?_⟩; simp (disch := first | omega | assumption | rfl | (simp only [vcS] <;> omega) | fail) only [↓vcA, vcB, ↓reduceIte, Nat.reduceEqDiff, reduceCtorEq, Option.bind_some, hsz, hil])
      (refine W_at c30_ok ?_; refine ⟨_, rfl, ?_⟩; simp (disch := first | omega | assumption | rfl | (simp only [vcS] <;> omega) | fail) only [↓vcA, vcB, ↓reduceIte, Nat.reduceEqDiff, reduceCtorEq])
      (refine W_at c30_ok ?_; refine ⟨_, rfl, ?_⟩; simp (disch := first | omega | assumption | rfl | (simp only [vcS] <;> omega) | fail) only [↓vcL1, ↓vcA, vcB, ↓reduceIte, Nat.reduceEqDiff, reduceCtorEq, Option.bind_some, Option.map_some])
      refine callV_ret (step_ok wj c 0 (by decide)) ?_
      rintro _ w2 ⟨rfl, hE2⟩
      simp (disch := first | omega | assumption | rfl | (simp only [vcS] <;> omega) | fail) only [ptS1_eq, ↓vcA, vcB, ↓reduceIte, Nat.reduceEqDiff, reduceCtorEq]
      (refine W_at c30_ok ?_; refine ⟨_, rfl, ?_⟩; simp (disch := first | omega | assumption | rfl | (simp only [vcS] <;> omega) | fail) only [↓vcA, vcB, ↓reduceIte, Nat.reduceEqDiff, reduceCtorEq])
      exact L2 h.length 0 _ R w2 _ (by omega) (hE.ext hE2) hc
    | succ k ih =>
      intro i c R wj tl hi hE hc
      have hil : (i : Int) < (h.length : Int) := by omega
      have h0 : 0 ≤ (i : Int) := by omega
      have hwi : IntKind.i64.wrap ((i : Int) + 1) = ((i + 1 : Nat) : Int) := wrap_i64 (by omega) (by omega)
      have g1 := str_get (bs := h) (i := i) (by omega)
      have hx := hb h[i] (List.getElem_mem _)
      have u1 := u8i hx
      rw [List.drop_eq_getElem_cons (by omega), List.map_cons, List.cons_append, ← rG_step] at hc
      generalize h[i] = x at *
      obtain ⟨q1, q2, q3⟩ := quo_u8 hx
      have h32 : ¬ (32 : Int) = 0 := by decide
      (refine W_at c30_ok ?_; refine ⟨_, rfl, ?_⟩; simp (disch := first | omega | assumption | rfl | (simp only [vcS] <;> omega) | fail) only [↓vcA, vcB, ↓reduceIte, Nat.reduceEqDiff, reduceCtorEq, Option.bind_some, hsz, hil])
      (refine W_at c30_ok ?_; refine ⟨_, rfl, ?_⟩; simp (disch := first | omega | assumption | rfl | (simp only [vcS] <;> omega) | fail) only [↓vcA, vcB, ↓reduceIte, Nat.reduceEqDiff, reduceCtorEq])
      (refine W_at c30_ok ?_; refine ⟨_, rfl, ?_⟩; simp (disch := first | omega | assumption | rfl | (simp only [vcS] <;> omega) | fail) only [↓vcL1, ↓vcA, vcB, ↓reduceIte, Nat.reduceEqDiff, reduceCtorEq, Option.bind_some, Option.map_some, h0, Int.toNat_natCast, g1, u1, q1, q2, h32])
      refine callV_ret (step_ok wj c (x / 32) (by omega)) ?_
      rintro _ w2 ⟨rfl, hE2⟩
      simp (disch := first | omega | assumption | rfl | (simp only [vcS] <;> omega) | fail) only [ptS1_eq, ↓vcA, vcB, ↓reduceIte, Nat.reduceEqDiff, reduceCtorEq]
      (refine W_at c30_ok ?_; refine ⟨_, rfl, ?_⟩; simp (disch := first | omega | assumption | rfl | (simp only [vcS] <;> omega) | fail) only [↓vcA, vcB, ↓reduceIte, Nat.reduceEqDiff, reduceCtorEq, Option.bind_some, hwi])
      (refine W_at c30_ok ?_; refine ⟨_, rfl, ?_⟩; simp (disch := first | omega | assumption | rfl | (simp only [vcS] <;> omega) | fail) only [vcB])
      exact ih (i + 1) _ R w2 _ (by omega) (hE.ext hE2) hc
  (refine W_at c30_ok ?_; refine ⟨_, rfl, ?_⟩; simp (disch := first | omega | assumption | rfl | (simp only [vcS] <;> omega) | fail) only [↓vcA, vcB, ↓reduceIte, Nat.reduceEqDiff, reduceCtorEq])
  (refine W_at c30_ok ?_; refine ⟨_, rfl, ?_⟩; simp (disch := first | omega | assumption | rfl | (simp only [vcS] <;> omega) | fail) only [↓vcA, vcB, ↓reduceIte, Nat.reduceEqDiff, reduceCtorEq, e1])
  (refine W_at c30_ok ?_; refine ⟨_, rfl, ?_⟩; simp (disch := first | omega | assumption | rfl | (simp only [vcS] <;> omega) | fail) only [↓vcA, vcB, ↓reduceIte, Nat.reduceEqDiff, reduceCtorEq])
  exact L1 h.length 0 _ _ w _ (by omega) (Keep.refl _ w) rfl
end Go.Proofs
