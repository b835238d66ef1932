/- The program's reader: what each of its parts reads. -/
import Derived.Test.YthjgmajfkfhdaaaW5
set_option linter.unusedSimpArgs false
set_option linter.unusedVariables false
set_option linter.constructorNameAsVariable false
namespace Go.Proofs
open Go.Vc
set_option maxRecDepth 10000

theorem callV_all {P : Program} {R : Ending → World → Prop} {f : FuncId} {vs : List Value} {w : World} {K : Value → World → Prop} {φ : Ending → World → Prop}
    (h : Calls P f vs.toArray w φ) (h1 : ∀ v w', φ (.returned v) w' → K v w') (h2 : ∀ c w', φ (.panicked c) w' → R (.panicked c) w') (h3 : ∀ w', φ .outgrown w' → R .outgrown w') : callV P R f vs w K := by
  unfold callV
  refine Calls.mono h fun en w' hp => ?_
  cases en with
  | returned v => exact h1 v w' hp
  | panicked c => exact h2 c w' hp
  | outgrown => exact h3 w' hp
theorem REnd.no_out {w w' : World} {r B : Nat} {e : Int} {ok : Option (List Int × (Value → World → Prop))} {er : Int} (h : REnd w r B e ok er .outgrown w') : False := by
  obtain ⟨_, h⟩ := h
  split at h
  · obtain ⟨_, _, h, _⟩ := h; cases h
  · cases h.1
/-- A reading part is called, and what it hands back is gone on with. -/
theorem callR {P : Program} {f : FuncId} {vs : List Value} {w w0 : World} {K : Value → World → Prop} {r B : Nat} {e : Int} {ok ok' : Option (List Int × (Value → World → Prop))} {er er' : Int}
    (h : Calls P f vs.toArray w (REnd w r B e ok er)) (hk0 : Keep (fun i => i = r) w0 w)
    (h1 : ∀ rest φ, ok = some (rest, φ) → ∀ u w' v', Keep (fun i => i = r) w w' → φ u w' → RAt w' r B v' rest e → K u w') (h2 : ok = none → ok' = none ∧ er' = er) : callV P (REnd w0 r B e ok' er') f vs w K := by
  refine callV_all h (fun v w' hp => ?_) (fun c w' hp => ?_) fun w' hp => (REnd.no_out hp).elim
  · obtain ⟨hk, hp⟩ := hp
    cases hok : ok with
    | some p =>
      obtain ⟨rest, φ⟩ := p
      rw [hok] at hp
      obtain ⟨u, v', hu, hφ, hR⟩ := hp
      cases hu
      exact h1 rest φ hok _ w' v' hk hφ hR
    | none => rw [hok] at hp; cases hp.1
  · obtain ⟨hk, hp⟩ := hp
    cases hok : ok with
    | some p => rw [hok] at hp; obtain ⟨_, _, hu, _⟩ := hp; cases hu
    | none =>
      rw [hok] at hp
      obtain ⟨e1, e2⟩ := h2 hok
      subst e1 e2
      exact ⟨hk0.trans hk fun _ _ h => h, hp⟩

def valF : List Int → Int
  | [] => 0
  | b :: bs => b + 256 * valF bs
theorem valF_lt : ∀ {bs : List Int}, byt bs → 0 ≤ valF bs ∧ valF bs < 256 ^ bs.length
  | [], _ => by simp [valF]
  | b :: bs, h => by
    have h1 := h b (by simp)
    have h2 := valF_lt (bs := bs) fun x hx => h x (by simp [hx])
    simp only [valF, List.length_cons, Int.pow_succ]
    omega
theorem valF_snoc : ∀ (bs : List Int) (b : Int), valF (bs ++ [b]) = valF bs + b * 256 ^ bs.length
  | [], b => by simp [valF]
  | x :: bs, b => by
    have ih := valF_snoc bs b
    simp only [List.cons_append, valF, ih, List.length_cons, Int.pow_succ]
    rw [Int.mul_add, ← Int.mul_assoc, ← Int.mul_assoc, Int.mul_comm 256 b, Int.mul_assoc b 256, Int.mul_comm 256 (256 ^ bs.length)]
    rw [Int.mul_assoc]; omega
theorem valF_lowF : ∀ (n : Nat) (x : Int), 0 ≤ x → x < 256 ^ n → valF (lowF n x) = x
  | 0, x, h0, h1 => by simp at h1; simp [lowF, valF]; omega
  | n + 1, x, h0, h1 => by
    rw [Int.pow_succ] at h1
    have ih := valF_lowF n (x / 256) (by omega) (by omega)
    simp only [lowF, valF, ih]; omega
theorem or_add {x c : Int} {i : Nat} (hx : 0 ≤ x ∧ x < 256 ^ i) (hc : 0 ≤ c ∧ c ≤ 255) (hi : i < 8) :
    IntKind.u64.wrap (((BitVec.ofInt IntKind.u64.bits x ||| BitVec.ofInt IntKind.u64.bits (c * 256 ^ i)).toNat : Nat) : Int) = x + c * 256 ^ i := by
  show IntKind.u64.wrap (((BitVec.ofInt 64 x ||| BitVec.ofInt 64 (c * 256 ^ i)).toNat : Nat) : Int) = _
  obtain ⟨X, rfl⟩ := Int.eq_ofNat_of_zero_le hx.1
  obtain ⟨C, rfl⟩ := Int.eq_ofNat_of_zero_le hc.1
  have e1 : ((256 : Int) ^ i) = ((2 ^ (8 * i) : Nat) : Int) := by rw [Nat.pow_mul]; simp
  rw [e1] at hx ⊢
  have hX : X < 2 ^ (8 * i) := by omega
  have hle : 2 ^ (8 * i) ≤ 2 ^ 56 := Nat.pow_le_pow_right (by decide) (by omega)
  have hC : C ≤ 255 := by omega
  have hm : C * 2 ^ (8 * i) ≤ 255 * 2 ^ 56 := Nat.mul_le_mul hC hle
  have e2 : ((C : Int) * ((2 ^ (8 * i) : Nat) : Int)) = ((C * 2 ^ (8 * i) : Nat) : Int) := by simp
  rw [e2, BitVec.toNat_or]
  have t : ∀ n : Nat, n < 2 ^ 64 → (BitVec.ofInt 64 (n : Int)).toNat = n := fun n hn => by
    rw [BitVec.toNat_ofInt]
    have : ((n : Int) % ((2 ^ 64 : Nat) : Int)).toNat = n := by
      rw [Int.emod_eq_of_lt (by omega) (by omega)]; simp
    exact this
  rw [t X (by omega), t _ (by omega)]
  have e3 : X ||| C * 2 ^ (8 * i) = X + C * 2 ^ (8 * i) := by
    have := Nat.two_pow_add_eq_or_of_lt hX C
    rw [Nat.mul_comm (2 ^ (8 * i)) C] at this
    rw [Nat.or_comm, ← this, Nat.add_comm]
  rw [e3, wrap_u64]
  omega

theorem advA_blk {s c l : Nat} {q : Option Addr} {a : Addr} (h : advA s q c l = some a) : ∃ a', q = some a' ∧ a.block = a'.block := by
  unfold advA at h
  split at h
  · exact ⟨a, h, rfl⟩
  · cases q with
    | none => cases h
    | some a' =>
      simp only [Option.map_some, Option.some.injEq] at h
      refine ⟨a', rfl, ?_⟩
      rw [← h]; unfold Addr.add; split <;> rfl

theorem take_ok (w : World) (r B : Nat) (v : Value) (bs : List Int) (e : Int) (n : Nat) (h : RAt w r B v bs e) :
    Calls Try.prog 41 #[.pointer (some ⟨r, 0, none⟩), .int .i64 n] w (REnd w r B e (if n ≤ bs.length then some (bs.drop n, fun u w' => Rd w' u (bs.take n)) else none) 4) := by
  refine calls_of_cfg c41_ok (Nat.le_of_ble_eq_true rfl) ?_
  simp only [argE_nil, argE_cons, Nat.reduceAdd, Nat.zero_add]
  have hat := h.at'
  have hlen := h.rd.len
  have h0 := h.rd
  (refine W_at c41_ok ?_; refine ⟨_, rfl, ?_⟩; simp (disch := first | omega | assumption | rfl | (simp only [vcS] <;> omega) | fail) only [↓ptV_l, ↓vcA, vcB, ↓vcD, vcE, ↓reduceIte, Nat.reduceEqDiff, Nat.reduceAdd, Nat.reduceMul, Nat.reduceLeDiff, Int.reduceLE, Int.reduceLT, Int.reduceEq, Int.reduceToNat, Int.reduceAdd, Int.reduceSub, Int.reduceMul, Int.reduceNeg, reduceCtorEq, Option.bind_some, Option.map_some, List.length_cons, List.length_nil, vcM, List.getElem?_toArray, List.getElem?_cons_zero, List.getElem?_cons_succ])
  by_cases hn : (bs.length : Int) < n
  · rw [if_neg (by omega)]
    (refine W_at c41_ok ?_; refine ⟨_, rfl, ?_⟩; simp (disch := first | omega | assumption | rfl | (simp only [vcS] <;> omega) | fail) only [↓ptV_l, ↓vcA, vcB, ↓vcD, vcE, ↓reduceIte, Nat.reduceEqDiff, Nat.reduceAdd, Nat.reduceMul, Nat.reduceLeDiff, Int.reduceLE, Int.reduceLT, Int.reduceEq, Int.reduceToNat, Int.reduceAdd, Int.reduceSub, Int.reduceMul, Int.reduceNeg, reduceCtorEq, Option.bind_some, Option.map_some, List.length_cons, List.length_nil, vcM, List.getElem?_toArray, List.getElem?_cons_zero, List.getElem?_cons_succ, hat, hlen, hn])
    (refine W_at c41_ok ?_; refine ⟨_, rfl, ?_⟩; simp (disch := first | omega | assumption | rfl | (simp only [vcS] <;> omega) | fail) only [↓ptV_l, ↓vcA, vcB, ↓vcD, vcE, ↓reduceIte, Nat.reduceEqDiff, Nat.reduceAdd, Nat.reduceMul, Nat.reduceLeDiff, Int.reduceLE, Int.reduceLT, Int.reduceEq, Int.reduceToNat, Int.reduceAdd, Int.reduceSub, Int.reduceMul, Int.reduceNeg, reduceCtorEq, Option.bind_some, Option.map_some, List.length_cons, List.length_nil, vcM, List.getElem?_toArray, List.getElem?_cons_zero, List.getElem?_cons_succ])
    (refine W_at c41_ok ?_; refine ⟨_, rfl, ?_⟩; simp (disch := first | omega | assumption | rfl | (simp only [vcS] <;> omega) | fail) only [↓ptV_l, ↓vcA, vcB, ↓vcD, vcE, ↓reduceIte, Nat.reduceEqDiff, Nat.reduceAdd, Nat.reduceMul, Nat.reduceLeDiff, Int.reduceLE, Int.reduceLT, Int.reduceEq, Int.reduceToNat, Int.reduceAdd, Int.reduceSub, Int.reduceMul, Int.reduceNeg, reduceCtorEq, Option.bind_some, Option.map_some, List.length_cons, List.length_nil, vcM, List.getElem?_toArray, List.getElem?_cons_zero, List.getElem?_cons_succ])
    exact ⟨Keep.refl _ w, rfl, v, bs, h⟩
  · rw [if_pos (by omega)]
    obtain ⟨⟨q, c, rfl, hc⟩, hm, hr⟩ := h.rd
    have hh : 0 ≤ (n : Int) ∧ (n : Int) ≤ c := by omega
    have hl : 0 ≤ (n : Int) ∧ (n : Int) ≤ bs.length := by omega
    (refine W_at c41_ok ?_; refine ⟨_, rfl, ?_⟩; simp (disch := first | omega | assumption | rfl | (simp only [vcS] <;> omega) | fail) only [↓ptV_l, ↓vcA, vcB, ↓vcD, vcE, ↓reduceIte, Nat.reduceEqDiff, Nat.reduceAdd, Nat.reduceMul, Nat.reduceLeDiff, Int.reduceLE, Int.reduceLT, Int.reduceEq, Int.reduceToNat, Int.reduceAdd, Int.reduceSub, Int.reduceMul, Int.reduceNeg, reduceCtorEq, Option.bind_some, Option.map_some, List.length_cons, List.length_nil, vcM, List.getElem?_toArray, List.getElem?_cons_zero, List.getElem?_cons_succ, hat, hlen, hn])
    (refine W_at c41_ok ?_; refine ⟨_, rfl, ?_⟩; simp (disch := first | omega | assumption | rfl | (simp only [vcS] <;> omega) | fail) only [↓ptV_l, ↓vcA, vcB, ↓vcD, vcE, ↓reduceIte, Nat.reduceEqDiff, Nat.reduceAdd, Nat.reduceMul, Nat.reduceLeDiff, Int.reduceLE, Int.reduceLT, Int.reduceEq, Int.reduceToNat, Int.reduceAdd, Int.reduceSub, Int.reduceMul, Int.reduceNeg, reduceCtorEq, Option.bind_some, Option.map_some, List.length_cons, List.length_nil, vcM, List.getElem?_toArray, List.getElem?_cons_zero, List.getElem?_cons_succ])
    (refine W_at c41_ok ?_; refine ⟨_, rfl, ?_⟩; simp (disch := first | omega | assumption | rfl | (simp only [vcS] <;> omega) | fail) only [↓ptV_l, ↓vcA, vcB, ↓vcD, vcE, ↓reduceIte, Nat.reduceEqDiff, Nat.reduceAdd, Nat.reduceMul, Nat.reduceLeDiff, Int.reduceLE, Int.reduceLT, Int.reduceEq, Int.reduceToNat, Int.reduceAdd, Int.reduceSub, Int.reduceMul, Int.reduceNeg, reduceCtorEq, Option.bind_some, Option.map_some, List.length_cons, List.length_nil, vcM, List.getElem?_toArray, List.getElem?_cons_zero, List.getElem?_cons_succ, hat, hh, Int.toNat_natCast, Nat.sub_zero])
    (refine W_at c41_ok ?_; refine ⟨_, rfl, ?_⟩; simp (disch := first | omega | assumption | rfl | (simp only [vcS] <;> omega) | fail) only [↓ptV_l, ↓vcA, vcB, ↓vcD, vcE, ↓reduceIte, Nat.reduceEqDiff, Nat.reduceAdd, Nat.reduceMul, Nat.reduceLeDiff, Int.reduceLE, Int.reduceLT, Int.reduceEq, Int.reduceToNat, Int.reduceAdd, Int.reduceSub, Int.reduceMul, Int.reduceNeg, reduceCtorEq, Option.bind_some, Option.map_some, List.length_cons, List.length_nil, vcM, List.getElem?_toArray, List.getElem?_cons_zero, List.getElem?_cons_succ, hat, hl, Int.toNat_natCast])
    have h1 := h0.cut (l := 0) (j := n) (by omega) (by omega)
    have h2 := h0.cut (l := n) (j := bs.length) (by omega) (by omega)
    rw [advA_0, Nat.sub_zero, Nat.sub_zero, List.drop_zero] at h1
    rw [List.take_length] at h2
    refine ⟨wr1_of hat (by simp), ?_⟩
    have hk : Keep (fun i => i = r) w (w.setCell ⟨r, 0, none⟩ (.slice (advA 1 q c n) (bs.length - n) (c - n))) := (Keep.refl _ w).setCell _ fun _ => rfl
    have ha : (w.setCell ⟨r, 0, none⟩ (.slice (advA 1 q c n) (bs.length - n) (c - n))).heap[r]? = some (.cells #[.slice (advA 1 q c n) (bs.length - n) (c - n), .int .i64 e] 80 (0, 0)) := by rw [heap_setCell_eq hat]; rfl
    have hR := h.set hk ha h2 (fun q' n' c' hq => by
      cases hq' : advA 1 q c n with
      | none => rw [hq'] at hq; cases hq
      | some a =>
        rw [hq'] at hq; cases hq
        obtain ⟨a', h3, h4⟩ := advA_blk hq'
        exact ⟨a', _, _, by rw [h3], h4⟩)
    have hu : Rd (w.setCell ⟨r, 0, none⟩ (.slice (advA 1 q c n) (bs.length - n) (c - n))) (.slice q n c) (bs.take n) := h1.keep hk fun q' n' c' hq => by
      cases hq
      obtain ⟨h3, _, h4⟩ := h.bb q' _ _ rfl
      rw [h3]; exact h4
    generalize World.setCell _ _ _ = w1 at hk hR hu ⊢
    (refine W_at c41_ok ?_; refine ⟨_, rfl, ?_⟩; simp (disch := first | omega | assumption | rfl | (simp only [vcS] <;> omega) | fail) only [↓ptV_l, ↓vcA, vcB, ↓vcD, vcE, ↓reduceIte, Nat.reduceEqDiff, Nat.reduceAdd, Nat.reduceMul, Nat.reduceLeDiff, Int.reduceLE, Int.reduceLT, Int.reduceEq, Int.reduceToNat, Int.reduceAdd, Int.reduceSub, Int.reduceMul, Int.reduceNeg, reduceCtorEq, Option.bind_some, Option.map_some, List.length_cons, List.length_nil, vcM, List.getElem?_toArray, List.getElem?_cons_zero, List.getElem?_cons_succ])
    (refine W_at c41_ok ?_; refine ⟨_, rfl, ?_⟩; simp (disch := first | omega | assumption | rfl | (simp only [vcS] <;> omega) | fail) only [↓ptV_l, ↓vcA, vcB, ↓vcD, vcE, ↓reduceIte, Nat.reduceEqDiff, Nat.reduceAdd, Nat.reduceMul, Nat.reduceLeDiff, Int.reduceLE, Int.reduceLT, Int.reduceEq, Int.reduceToNat, Int.reduceAdd, Int.reduceSub, Int.reduceMul, Int.reduceNeg, reduceCtorEq, Option.bind_some, Option.map_some, List.length_cons, List.length_nil, vcM, List.getElem?_toArray, List.getElem?_cons_zero, List.getElem?_cons_succ])
    exact ⟨hk, _, _, rfl, hu, hR⟩

theorem numb_ok (w : World) (r B : Nat) (v : Value) (bs : List Int) (e : Int) (n : Nat) (h : RAt w r B v bs e) (hb : byt bs) (hn : n ≤ 8) :
    Calls Try.prog 44 #[.pointer (some ⟨r, 0, none⟩), .int .i64 n] w (REnd w r B e (if n ≤ bs.length then some (bs.drop n, fun u _ => u = .int .u64 (valF (bs.take n))) else none) 4) := by
  refine calls_of_cfg c44_ok (Nat.le_of_ble_eq_true rfl) ?_
  simp only [argE_nil, argE_cons, Nat.reduceAdd, Nat.zero_add]
  (refine W_at c44_ok ?_; refine ⟨_, rfl, ?_⟩; simp (disch := first | omega | assumption | rfl | (simp only [vcS] <;> omega) | fail) only [↓ptV_l, ↓vcA, vcB, ↓vcD, vcE, ↓reduceIte, Nat.reduceEqDiff, Nat.reduceAdd, Nat.reduceMul, Nat.reduceLeDiff, Int.reduceLE, Int.reduceLT, Int.reduceEq, Int.reduceToNat, Int.reduceAdd, Int.reduceSub, Int.reduceMul, Int.reduceNeg, reduceCtorEq, Option.bind_some, Option.map_some, List.length_cons, List.length_nil, vcM, List.getElem?_toArray, List.getElem?_cons_zero, List.getElem?_cons_succ])
  (refine W_at c44_ok ?_; refine ⟨_, rfl, ?_⟩; simp (disch := first | omega | assumption | rfl | (simp only [vcS] <;> omega) | fail) only [↓ptV_l, ↓vcA, vcB, ↓vcD, vcE, ↓reduceIte, Nat.reduceEqDiff, Nat.reduceAdd, Nat.reduceMul, Nat.reduceLeDiff, Int.reduceLE, Int.reduceLT, Int.reduceEq, Int.reduceToNat, Int.reduceAdd, Int.reduceSub, Int.reduceMul, Int.reduceNeg, reduceCtorEq, Option.bind_some, Option.map_some, List.length_cons, List.length_nil, vcM, List.getElem?_toArray, List.getElem?_cons_zero, List.getElem?_cons_succ])
  (refine W_at c44_ok ?_; refine ⟨_, rfl, ?_⟩; simp (disch := first | omega | assumption | rfl | (simp only [vcS] <;> omega) | fail) only [↓ptV_l, ↓vcA, vcB, ↓vcD, vcE, ↓reduceIte, Nat.reduceEqDiff, Nat.reduceAdd, Nat.reduceMul, Nat.reduceLeDiff, Int.reduceLE, Int.reduceLT, Int.reduceEq, Int.reduceToNat, Int.reduceAdd, Int.reduceSub, Int.reduceMul, Int.reduceNeg, reduceCtorEq, Option.bind_some, Option.map_some, List.length_cons, List.length_nil, vcM, List.getElem?_toArray, List.getElem?_cons_zero, List.getElem?_cons_succ])
  refine callR (take_ok w r B v bs e n h) (Keep.refl _ w) ?_ ?_
  · intro rest φ hok u w1 v1 hk hφ hR
    by_cases hl : n ≤ bs.length
    · rw [if_pos hl] at hok ⊢
      simp only [Option.some.injEq, Prod.mk.injEq] at hok
      obtain ⟨rfl, rfl⟩ := hok
      have hlen : (bs.take n).length = n := by rw [List.length_take]; omega
      have hbt := byt_take hb n
      have hul := hφ.len
      rw [hlen] at hul
      generalize bs.take n = ts at hφ hlen hbt ⊢
      simp (disch := first | omega | assumption | rfl | (simp only [vcS] <;> omega) | fail) only [↓ptV_l, ↓vcA, vcB, ↓vcD, vcE, ↓reduceIte, Nat.reduceEqDiff, Nat.reduceAdd, Nat.reduceMul, Nat.reduceLeDiff, Int.reduceLE, Int.reduceLT, Int.reduceEq, Int.reduceToNat, Int.reduceAdd, Int.reduceSub, Int.reduceMul, Int.reduceNeg, reduceCtorEq, Option.bind_some, Option.map_some, List.length_cons, List.length_nil, vcM, List.getElem?_toArray, List.getElem?_cons_zero, List.getElem?_cons_succ, hul]
      have L : ∀ (k i : Nat), k + i = n → W Try.prog (REnd w r B e (some (bs.drop n, fun u _ => u = .int .u64 (valF ts))) 4) 44 8 [(5, .int .u64 (valF (ts.take i))), (10, u), (11, .int .i64 n), (12, .int .i64 i)] w1 := by
        intro k
        induction k with
        | zero =>
          intro i hi
          have hlt : ¬ ((i : Int) < n) := by omega
          have ei : ts.take i = ts := List.take_of_length_le (by omega)
          rw [ei]
          (refine W_at c44_ok ?_; refine ⟨_, rfl, ?_⟩; simp (disch := first | omega | assumption | rfl | (simp only [vcS] <;> omega) | fail) only [↓ptV_l, ↓vcA, vcB, ↓vcD, vcE, ↓reduceIte, Nat.reduceEqDiff, Nat.reduceAdd, Nat.reduceMul, Nat.reduceLeDiff, Int.reduceLE, Int.reduceLT, Int.reduceEq, Int.reduceToNat, Int.reduceAdd, Int.reduceSub, Int.reduceMul, Int.reduceNeg, reduceCtorEq, Option.bind_some, Option.map_some, List.length_cons, List.length_nil, vcM, List.getElem?_toArray, List.getElem?_cons_zero, List.getElem?_cons_succ, hlt])
          (refine W_at c44_ok ?_; refine ⟨_, rfl, ?_⟩; simp (disch := first | omega | assumption | rfl | (simp only [vcS] <;> omega) | fail) only [↓ptV_l, ↓vcA, vcB, ↓vcD, vcE, ↓reduceIte, Nat.reduceEqDiff, Nat.reduceAdd, Nat.reduceMul, Nat.reduceLeDiff, Int.reduceLE, Int.reduceLT, Int.reduceEq, Int.reduceToNat, Int.reduceAdd, Int.reduceSub, Int.reduceMul, Int.reduceNeg, reduceCtorEq, Option.bind_some, Option.map_some, List.length_cons, List.length_nil, vcM, List.getElem?_toArray, List.getElem?_cons_zero, List.getElem?_cons_succ])
          (refine W_at c44_ok ?_; refine ⟨_, rfl, ?_⟩; simp (disch := first | omega | assumption | rfl | (simp only [vcS] <;> omega) | fail) only [↓ptV_l, ↓vcA, vcB, ↓vcD, vcE, ↓reduceIte, Nat.reduceEqDiff, Nat.reduceAdd, Nat.reduceMul, Nat.reduceLeDiff, Int.reduceLE, Int.reduceLT, Int.reduceEq, Int.reduceToNat, Int.reduceAdd, Int.reduceSub, Int.reduceMul, Int.reduceNeg, reduceCtorEq, Option.bind_some, Option.map_some, List.length_cons, List.length_nil, vcM, List.getElem?_toArray, List.getElem?_cons_zero, List.getElem?_cons_succ])
          (refine W_at c44_ok ?_; refine ⟨_, rfl, ?_⟩; simp (disch := first | omega | assumption | rfl | (simp only [vcS] <;> omega) | fail) only [↓ptV_l, ↓vcA, vcB, ↓vcD, vcE, ↓reduceIte, Nat.reduceEqDiff, Nat.reduceAdd, Nat.reduceMul, Nat.reduceLeDiff, Int.reduceLE, Int.reduceLT, Int.reduceEq, Int.reduceToNat, Int.reduceAdd, Int.reduceSub, Int.reduceMul, Int.reduceNeg, reduceCtorEq, Option.bind_some, Option.map_some, List.length_cons, List.length_nil, vcM, List.getElem?_toArray, List.getElem?_cons_zero, List.getElem?_cons_succ])
          exact ⟨hk, _, v1, rfl, rfl, hR⟩
        | succ k ih =>
          intro i hi
          have hlt : ((i : Int) < n) := by omega
          have hi2 : 0 ≤ (i : Int) ∧ (i : Int) < n := by omega
          have hwi : IntKind.i64.wrap ((i : Int) + 1) = ((i + 1 : Nat) : Int) := wrap_i64 (by omega) (by omega)
          have hil : i < ts.length := by omega
          obtain ⟨b, o, c, hu, hcell⟩ := hφ.at hil
          subst hu
          have hbi := hbt _ (List.getElem_mem hil)
          have hx := valF_lt (byt_take hbt i)
          have hlen2 : (ts.take i).length = i := by rw [List.length_take]; omega
          rw [hlen2] at hx
          have hc1 : IntKind.u64.wrap ts[i] = ts[i] := by rw [wrap_u64]; omega
          have hm8 : IntKind.i64.wrap (8 * (i : Int)) = 8 * (i : Int) := wrap_i64 (by omega) (by omega)
          have h8 : 0 ≤ 8 * (i : Int) := by omega
          have hsh : IntKind.u64.wrap (ts[i] * 2 ^ Nat.min (8 * (i : Int)).toNat IntKind.u64.bits) = ts[i] * 256 ^ i := by
            have e1 : Nat.min (8 * (i : Int)).toNat IntKind.u64.bits = 8 * i := by
              show Nat.min (8 * (i : Int)).toNat 64 = 8 * i
              rw [show (8 * (i : Int)).toNat = 8 * i by omega]; exact Nat.min_eq_left (by omega)
            rw [e1]
            have e2 : (2 : Int) ^ (8 * i) = 256 ^ i := by rw [Int.pow_mul]; rfl
            rw [e2, wrap_u64]
            have h3 : (256 : Int) ^ i ≤ 256 ^ 7 := by
              have : (256 : Nat) ^ i ≤ 256 ^ 7 := Nat.pow_le_pow_right (by decide) (by omega)
              have e3 : ((256 ^ i : Nat) : Int) = (256 : Int) ^ i := by simp
              omega
            have h4 : ts[i] * 256 ^ i ≤ 255 * 256 ^ 7 := Int.mul_le_mul hbi.2 h3 (Int.le_of_lt (Int.pow_pos (by decide))) (by decide)
            have h5 : 0 ≤ ts[i] * (256 : Int) ^ i := Int.mul_nonneg hbi.1 (Int.le_of_lt (Int.pow_pos (by decide)))
            omega
          have hor := or_add hx hbi (by omega : i < 8)
          have hnx : valF (ts.take i) + ts[i] * 256 ^ i = valF (ts.take (i + 1)) := by
            rw [List.take_succ_eq_append_getElem hil, valF_snoc, hlen2]
          rw [hnx] at hor
          rw [hlen]
          (refine W_at c44_ok ?_; refine ⟨_, rfl, ?_⟩; simp (disch := first | omega | assumption | rfl | (simp only [vcS] <;> omega) | fail) only [↓ptV_l, ↓vcA, vcB, ↓vcD, vcE, ↓reduceIte, Nat.reduceEqDiff, Nat.reduceAdd, Nat.reduceMul, Nat.reduceLeDiff, Int.reduceLE, Int.reduceLT, Int.reduceEq, Int.reduceToNat, Int.reduceAdd, Int.reduceSub, Int.reduceMul, Int.reduceNeg, reduceCtorEq, Option.bind_some, Option.map_some, List.length_cons, List.length_nil, vcM, List.getElem?_toArray, List.getElem?_cons_zero, List.getElem?_cons_succ, hlt])
          (refine W_at c44_ok ?_; refine ⟨_, rfl, ?_⟩; simp (disch := first | omega | assumption | rfl | (simp only [vcS] <;> omega) | fail) only [↓ptV_l, ↓vcA, vcB, ↓vcD, vcE, ↓reduceIte, Nat.reduceEqDiff, Nat.reduceAdd, Nat.reduceMul, Nat.reduceLeDiff, Int.reduceLE, Int.reduceLT, Int.reduceEq, Int.reduceToNat, Int.reduceAdd, Int.reduceSub, Int.reduceMul, Int.reduceNeg, reduceCtorEq, Option.bind_some, Option.map_some, List.length_cons, List.length_nil, vcM, List.getElem?_toArray, List.getElem?_cons_zero, List.getElem?_cons_succ])
          (refine W_at c44_ok ?_; refine ⟨_, rfl, ?_⟩; simp (disch := first | omega | assumption | rfl | (simp only [vcS] <;> omega) | fail) only [↓ptV_l, ↓vcA, vcB, ↓vcD, vcE, ↓reduceIte, Nat.reduceEqDiff, Nat.reduceAdd, Nat.reduceMul, Nat.reduceLeDiff, Int.reduceLE, Int.reduceLT, Int.reduceEq, Int.reduceToNat, Int.reduceAdd, Int.reduceSub, Int.reduceMul, Int.reduceNeg, reduceCtorEq, Option.bind_some, Option.map_some, List.length_cons, List.length_nil, vcM, List.getElem?_toArray, List.getElem?_cons_zero, List.getElem?_cons_succ, hi2, Int.toNat_natCast, Nat.mul_one, hcell])
          (refine W_at c44_ok ?_; refine ⟨_, rfl, ?_⟩; simp (disch := first | omega | assumption | rfl | (simp only [vcS] <;> omega) | fail) only [↓ptV_l, ↓vcA, vcB, ↓vcD, vcE, ↓reduceIte, Nat.reduceEqDiff, Nat.reduceAdd, Nat.reduceMul, Nat.reduceLeDiff, Int.reduceLE, Int.reduceLT, Int.reduceEq, Int.reduceToNat, Int.reduceAdd, Int.reduceSub, Int.reduceMul, Int.reduceNeg, reduceCtorEq, Option.bind_some, Option.map_some, List.length_cons, List.length_nil, vcM, List.getElem?_toArray, List.getElem?_cons_zero, List.getElem?_cons_succ, hc1, hm8, h8, hsh, hor])
          (refine W_at c44_ok ?_; refine ⟨_, rfl, ?_⟩; simp (disch := first | omega | assumption | rfl | (simp only [vcS] <;> omega) | fail) only [↓ptV_l, ↓vcA, vcB, ↓vcD, vcE, ↓reduceIte, Nat.reduceEqDiff, Nat.reduceAdd, Nat.reduceMul, Nat.reduceLeDiff, Int.reduceLE, Int.reduceLT, Int.reduceEq, Int.reduceToNat, Int.reduceAdd, Int.reduceSub, Int.reduceMul, Int.reduceNeg, reduceCtorEq, Option.bind_some, Option.map_some, List.length_cons, List.length_nil, vcM, List.getElem?_toArray, List.getElem?_cons_zero, List.getElem?_cons_succ, hwi])
          (refine W_at c44_ok ?_; refine ⟨_, rfl, ?_⟩; simp (disch := first | omega | assumption | rfl | (simp only [vcS] <;> omega) | fail) only [↓ptV_l, ↓vcA, vcB, ↓vcD, vcE, ↓reduceIte, Nat.reduceEqDiff, Nat.reduceAdd, Nat.reduceMul, Nat.reduceLeDiff, Int.reduceLE, Int.reduceLT, Int.reduceEq, Int.reduceToNat, Int.reduceAdd, Int.reduceSub, Int.reduceMul, Int.reduceNeg, reduceCtorEq, Option.bind_some, Option.map_some, List.length_cons, List.length_nil, vcM, List.getElem?_toArray, List.getElem?_cons_zero, List.getElem?_cons_succ])
          have := ih (i + 1) (by omega)
          rw [hlen] at this
          exact this
      have h0 := L n 0 (by omega)
      exact h0
    · rw [if_neg hl] at hok; cases hok
  · intro hok
    split at hok
    · cases hok
    · rename_i hl; exact ⟨by rw [if_neg hl], rfl⟩
end Go.Proofs
