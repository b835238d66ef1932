/- Plain: bits of values, grouped anew. -/
import Derived.Test.YtajkhimlpnebdaaTL
set_option linter.unusedSimpArgs false
set_option linter.unusedVariables false
set_option linter.constructorNameAsVariable false
namespace Go.Proofs
open Go.Vc
set_option maxRecDepth 10000

/-- What bits mean, the highest first. -/
def valB (l : List Int) : Int := l.foldl (fun a b => 2 * a + b) 0
def bit (l : List Int) : Prop := ∀ x ∈ l, x = 0 ∨ x = 1
/-- A value's bits, the highest first. -/
def bitsV : Nat → Int → List Int
  | 0, _ => []
  | n + 1, v => (v / 2 ^ n % 2) :: bitsV n v
def bitsF (n : Nat) (l : List Int) : List Int := l.flatMap (bitsV n)
/-- Groups, and what is left. -/
def grpF (to : Nat) : Nat → List Int → List Int × List Int
  | 0, P => ([], P)
  | k + 1, P => if to ≤ P.length then ((valB (P.take to)) :: (grpF to k (P.drop to)).1, (grpF to k (P.drop to)).2) else ([], P)
def groups (to : Nat) (P : List Int) : List Int × List Int := grpF to P.length P
theorem grpF_more {to : Nat} (ht : 0 < to) : ∀ (k m : Nat) (P : List Int), P.length ≤ k → P.length ≤ m → grpF to k P = grpF to m P
  | 0, 0, _, _, _ => rfl
  | 0, m + 1, P, h, _ => by
    have : P = [] := List.eq_nil_of_length_eq_zero (by omega)
    subst this
    rw [grpF, grpF, if_neg (by simp; omega)]
  | k + 1, 0, P, _, h => by
    have : P = [] := List.eq_nil_of_length_eq_zero (by omega)
    subst this
    rw [grpF, grpF, if_neg (by simp; omega)]
  | k + 1, m + 1, P, h1, h2 => by
    rw [grpF, grpF]
    by_cases h : to ≤ P.length
    · rw [if_pos h, if_pos h, grpF_more ht k m (P.drop to) (by rw [List.length_drop]; omega) (by rw [List.length_drop]; omega)]
    · rw [if_neg h, if_neg h]
theorem groups_ge {to : Nat} (ht : 0 < to) {P : List Int} (h : to ≤ P.length) : groups to P = (valB (P.take to) :: (groups to (P.drop to)).1, (groups to (P.drop to)).2) := by
  unfold groups
  have e : groups to P = grpF to ((P.drop to).length + to) P := grpF_more ht _ _ P (Nat.le_refl _) (by rw [List.length_drop]; omega)
  have e2 : (P.drop to).length + to = ((P.drop to).length + (to - 1)) + 1 := by omega
  unfold groups at e
  rw [e, e2, grpF, if_pos h, grpF_more ht _ (P.drop to).length (P.drop to) (by omega) (Nat.le_refl _)]
theorem groups_lt {to : Nat} {P : List Int} (h : P.length < to) : groups to P = ([], P) := by
  unfold groups
  cases hl : P.length with
  | zero => rfl
  | succ n => rw [grpF, if_neg (by omega)]
theorem groups_app {to : Nat} (ht : 0 < to) : ∀ (n : Nat) (P Q : List Int), P.length ≤ n → groups to (P ++ Q) = ((groups to P).1 ++ (groups to ((groups to P).2 ++ Q)).1, (groups to ((groups to P).2 ++ Q)).2)
  | n, P, Q, hn => by
    by_cases h : to ≤ P.length
    · cases n with
      | zero => omega
      | succ n =>
        rw [groups_ge ht h, groups_ge ht (P := P ++ Q) (by rw [List.length_append]; omega), List.take_append_of_le_length h, List.drop_append_of_le_length h, groups_app ht n (P.drop to) Q (by rw [List.length_drop]; omega)]
        simp
    · rw [groups_lt (P := P) (by omega)]; simp
theorem groups_rest {to : Nat} (ht : 0 < to) : ∀ (n : Nat) (P : List Int), P.length ≤ n → (groups to P).2.length < to
  | n, P, hn => by
    by_cases h : to ≤ P.length
    · cases n with
      | zero => omega
      | succ n => rw [groups_ge ht h]; exact groups_rest ht n _ (by rw [List.length_drop]; omega)
    · rw [groups_lt (by omega)]; simp only; omega
theorem bit_take {l : List Int} (h : bit l) (n : Nat) : bit (l.take n) := fun x hx => h x (List.mem_of_mem_take hx)
theorem bit_drop {l : List Int} (h : bit l) (n : Nat) : bit (l.drop n) := fun x hx => h x (List.mem_of_mem_drop hx)
theorem bit_app {a b : List Int} (h : bit a) (g : bit b) : bit (a ++ b) := fun x hx => by
  rcases List.mem_append.1 hx with hx | hx
  · exact h x hx
  · exact g x hx
theorem bitsV_len : ∀ (n : Nat) (v : Int), (bitsV n v).length = n
  | 0, _ => rfl
  | n + 1, v => by rw [bitsV, List.length_cons, bitsV_len n v]
theorem bitsV_bit : ∀ (n : Nat) (v : Int), bit (bitsV n v)
  | 0, _ => fun x hx => by cases hx
  | n + 1, v => fun x hx => by
    rw [bitsV] at hx
    rcases List.mem_cons.1 hx with rfl | hx
    · omega
    · exact bitsV_bit n v x hx
theorem bitsF_bit (n : Nat) (l : List Int) : bit (bitsF n l) := fun x hx => by
  obtain ⟨v, _, hv⟩ := List.mem_flatMap.1 hx
  exact bitsV_bit n v x hv
theorem bitsF_len (n : Nat) (l : List Int) : (bitsF n l).length = l.length * n := by
  induction l with
  | nil => simp [bitsF]
  | cons v l ih =>
    have : bitsF n (v :: l) = bitsV n v ++ bitsF n l := by simp [bitsF]
    rw [this, List.length_append, ih, bitsV_len, List.length_cons, Nat.add_mul]
    omega
theorem fold_valB (l : List Int) : ∀ (a : Int), l.foldl (fun a b => 2 * a + b) a = a * 2 ^ l.length + valB l := by
  induction l with
  | nil => intro a; simp [valB]
  | cons x l ih =>
    intro a
    rw [valB, List.foldl_cons, List.foldl_cons, ih, ih (2 * 0 + x), List.length_cons, Int.pow_succ]
    have e : (2 * a + x) * 2 ^ l.length = a * (2 ^ l.length * 2) + x * 2 ^ l.length := by
      rw [Int.add_mul, Int.mul_comm 2 a, Int.mul_assoc, Int.mul_comm 2]
    rw [e]
    simp [Int.add_assoc]
theorem valB_app (a b : List Int) : valB (a ++ b) = valB a * 2 ^ b.length + valB b := by
  rw [valB, List.foldl_append, fold_valB]; rfl
theorem valB_snoc (a : List Int) (x : Int) : valB (a ++ [x]) = 2 * valB a + x := by
  rw [valB, List.foldl_append]; rfl
theorem pow_pos' (n : Nat) : 0 < (2 : Int) ^ n := by
  have := Nat.pow_pos (n := n) (show 0 < 2 by decide)
  exact_mod_cast this
theorem valB_b {l : List Int} (h : bit l) : 0 ≤ valB l ∧ valB l < 2 ^ l.length := by
  induction l with
  | nil => simp [valB]
  | cons x l ih =>
    have i := ih fun y hy => h y (List.mem_cons_of_mem _ hy)
    have e : valB (x :: l) = x * 2 ^ l.length + valB l := by
      rw [valB, List.foldl_cons, fold_valB]; simp
    rw [e, List.length_cons, Int.pow_succ]
    have hp := pow_pos' l.length
    rcases h x (by simp) with rfl | rfl
    · rw [Int.zero_mul]; omega
    · rw [Int.one_mul]; omega
theorem valB_cons (x : Int) (l : List Int) : valB (x :: l) = x * 2 ^ l.length + valB l := by
  rw [valB, List.foldl_cons, fold_valB]; simp
theorem bitsV_mod : ∀ (n : Nat) (v : Int), 0 ≤ v → valB (bitsV n v) = v % 2 ^ n
  | 0, v, _ => by simp [bitsV, valB]
  | n + 1, v, h => by
    rw [bitsV, valB_cons, bitsV_len, bitsV_mod n v h]
    have hp := pow_pos' n
    have e : v % 2 ^ (n + 1) = v % (2 ^ n * 2) := by rw [Int.pow_succ]
    rw [e]
    generalize (2 : Int) ^ n = m at *
    have h1 := Int.mul_ediv_add_emod v m
    have h2 := Int.emod_nonneg v (b := m) (by omega)
    have h3 := Int.emod_lt_of_pos v hp
    have h4 := Int.emod_add_mul_ediv (v / m) 2
    have h5 : v = (v / m % 2 * m + v % m) + m * 2 * (v / m / 2) := by
      have : m * (v / m) = m * (v / m % 2) + m * (2 * (v / m / 2)) := by rw [← Int.mul_add, h4]
      rw [Int.mul_comm (v / m % 2), Int.mul_assoc m]
      omega
    have h6 : v / m % 2 = 0 ∨ v / m % 2 = 1 := by omega
    have h7 : 0 ≤ v / m % 2 * m + v % m ∧ v / m % 2 * m + v % m < m * 2 := by
      rcases h6 with h6 | h6 <;> rw [h6] <;> omega
    conv => rhs; rw [h5]
    rw [Int.add_mul_emod_self_left, Int.emod_eq_of_lt h7.1 h7.2]
theorem bitsV_val {n : Nat} {v : Int} (h : 0 ≤ v ∧ v < 2 ^ n) : valB (bitsV n v) = v := by
  rw [bitsV_mod n v h.1, Int.emod_eq_of_lt h.1 h.2]
theorem bitsV_add : ∀ (n : Nat) (u v : Int), bitsV n (u * 2 ^ n + v) = bitsV n v := by
  intro n u v
  have key : ∀ (m j : Nat), bitsV m (u * 2 ^ (m + j) + v) = bitsV m v := by
    intro m
    induction m with
    | zero => intro j; rfl
    | succ m ih =>
      intro j
      rw [bitsV, bitsV]
      have e1 : u * 2 ^ (m + 1 + j) = u * 2 ^ (m + (j + 1)) := by congr 2; omega
      rw [e1, ih (j + 1)]
      congr 1
      have e2 : u * 2 ^ (m + (j + 1)) + v = v + 2 ^ m * (u * 2 ^ j * 2) := by
        rw [Int.pow_add, Int.pow_succ, Int.add_comm, ← Int.mul_assoc u, Int.mul_comm u, Int.mul_assoc, Int.mul_assoc]
      rw [e2, Int.add_mul_ediv_left _ _ (by have := pow_pos' m; omega)]
      omega
  exact key n 0
theorem bitsV_of : ∀ {l : List Int}, bit l → bitsV l.length (valB l) = l
  | [], _ => rfl
  | x :: l, h => by
    have hl : bit l := fun y hy => h y (List.mem_cons_of_mem _ hy)
    have b := valB_b hl
    rw [List.length_cons, bitsV, valB_cons, bitsV_add, bitsV_of hl]
    congr 1
    have hp := pow_pos' l.length
    rw [Int.add_comm, Int.add_mul_ediv_right _ _ (by omega), Int.ediv_eq_zero_of_lt b.1 b.2]
    rcases h x (by simp) with rfl | rfl <;> rfl
theorem valB_zeros (k : Nat) : valB (List.replicate k 0) = 0 := by
  induction k with
  | zero => rfl
  | succ k ih => rw [List.replicate_succ, valB_cons, ih]; simp
theorem valB_zero {l : List Int} (h : bit l) (hz : valB l = 0) : ∀ x ∈ l, x = 0 := by
  induction l with
  | nil => intro x hx; cases hx
  | cons y l ih =>
    have hl : bit l := fun y hy => h y (List.mem_cons_of_mem _ hy)
    have b := valB_b hl
    rw [valB_cons] at hz
    have hp := pow_pos' l.length
    rcases h y (by simp) with rfl | rfl
    · intro x hx
      rcases List.mem_cons.1 hx with rfl | hx
      · rfl
      · exact ih hl (by omega) x hx
    · omega
/-- What is laid out, in groups, is what it was. -/
theorem groups_bits {n : Nat} (hn : 0 < n) : ∀ (l Q : List Int), (∀ v ∈ l, 0 ≤ v ∧ v < 2 ^ n) → Q.length < n → groups n (bitsF n l ++ Q) = (l, Q)
  | [], Q, _, hQ => by simp [bitsF]; exact groups_lt hQ
  | v :: l, Q, hv, hQ => by
    have e : bitsF n (v :: l) ++ Q = bitsV n v ++ (bitsF n l ++ Q) := by simp [bitsF]
    rw [e, groups_ge hn (by rw [List.length_append, bitsV_len]; omega)]
    have et : (bitsV n v ++ (bitsF n l ++ Q)).take n = bitsV n v := by
      rw [List.take_append_of_le_length (by rw [bitsV_len]; exact Nat.le_refl _), List.take_of_length_le (by rw [bitsV_len]; exact Nat.le_refl _)]
    have ed : (bitsV n v ++ (bitsF n l ++ Q)).drop n = bitsF n l ++ Q := by
      rw [List.drop_append_of_le_length (by rw [bitsV_len]; exact Nat.le_refl _), List.drop_of_length_le (by rw [bitsV_len]; exact Nat.le_refl _)]; rfl
    rw [et, ed, groups_bits hn l Q (fun u hu => hv u (List.mem_cons_of_mem _ hu)) hQ, bitsV_val (hv v (by simp))]
theorem bits_groups {n : Nat} (hn : 0 < n) : ∀ (k : Nat) (P : List Int), P.length ≤ k → bit P → bitsF n (groups n P).1 ++ (groups n P).2 = P ∧ (∀ v ∈ (groups n P).1, 0 ≤ v ∧ v < 2 ^ n)
  | k, P, hk, hb => by
    by_cases h : n ≤ P.length
    · cases k with
      | zero => omega
      | succ k =>
        obtain ⟨i1, i2⟩ := bits_groups hn k (P.drop n) (by rw [List.length_drop]; omega) (bit_drop hb n)
        have hl : (P.take n).length = n := by rw [List.length_take]; omega
        have hv := valB_b (bit_take hb n)
        rw [hl] at hv
        have hbv := bitsV_of (bit_take hb n)
        rw [hl] at hbv
        rw [groups_ge hn h]
        refine ⟨?_, fun v hv2 => ?_⟩
        · show bitsF n (valB (P.take n) :: (groups n (P.drop n)).1) ++ (groups n (P.drop n)).2 = P
          have e : bitsF n (valB (P.take n) :: (groups n (P.drop n)).1) = bitsV n (valB (P.take n)) ++ bitsF n (groups n (P.drop n)).1 := by simp [bitsF]
          rw [e, List.append_assoc, i1, hbv, List.take_append_drop]
        · rcases List.mem_cons.1 hv2 with rfl | hv2
          · exact hv
          · exact i2 v hv2
    · rw [groups_lt (by omega)]
      exact ⟨by simp [bitsF], fun v hv => by cases hv⟩
/-- What the document asks for: other groups; none: they can't be. -/
def fits (n : Nat) (l : List Int) : Prop := ∀ v ∈ l, v < 2 ^ n
instance (n : Nat) (l : List Int) : Decidable (fits n l) := inferInstanceAs (Decidable (∀ v ∈ l, v < 2 ^ n))
def padF (to : Nat) (R : List Int) : List Int := if R = [] then [] else [valB R * 2 ^ (to - R.length)]
def regF (l : List Int) (a b : Nat) (pad : Bool) : Option (List Int) :=
  if fits a l then
    (match groups b (bitsF a l) with
      | (G, R) => if pad then some (G ++ padF b R) else if R.length ≥ a ∨ valB R ≠ 0 then none else some G)
  else none
theorem fits_b {n : Nat} {l : List Int} (h : fits n l) (hb : byt l) : ∀ v ∈ l, 0 ≤ v ∧ v < 2 ^ n := fun v hv => ⟨(hb v hv).1, h v hv⟩
theorem regF_pad_b {l : List Int} {a b : Nat} (hb : 0 < b) {x : List Int} (h : regF l a b true = some x) : ∀ v ∈ x, 0 ≤ v ∧ v < 2 ^ b := by
  unfold regF at h
  split at h
  · obtain ⟨i1, i2⟩ := bits_groups hb _ (bitsF a l) (Nat.le_refl _) (bitsF_bit a l)
    have hR := groups_rest hb _ (bitsF a l) (Nat.le_refl _)
    have hRb : bit (groups b (bitsF a l)).2 := fun y hy => bitsF_bit a l y (by rw [← i1]; exact List.mem_append_right _ hy)
    generalize groups b (bitsF a l) = g at *
    obtain ⟨G, R⟩ := g
    simp only at *
    simp only [if_true] at h
    obtain rfl := Option.some.inj h
    intro v hv
    rcases List.mem_append.1 hv with hv | hv
    · exact i2 v hv
    · unfold padF at hv
      split at hv
      · cases hv
      · rw [List.mem_singleton.1 hv]
        have b1 := valB_b hRb
        have hp := pow_pos' (b - R.length)
        have e : (2 : Int) ^ b = 2 ^ R.length * 2 ^ (b - R.length) := by rw [← Int.pow_add]; congr 1; omega
        exact ⟨Int.mul_nonneg b1.1 (by omega), by rw [e]; exact Int.mul_lt_mul_of_pos_right b1.2 hp⟩
  · cases h
/-- And back. -/
theorem regF_back {l : List Int} {a b : Nat} (ha : 0 < a) (hb : 0 < b) (hab : b ≤ a) (hl : byt l) {x : List Int} (h : regF l a b true = some x) : regF x b a false = some l := by
  have hx := regF_pad_b hb h
  unfold regF at h
  split at h
  · rename_i hf
    obtain ⟨i1, i2⟩ := bits_groups hb _ (bitsF a l) (Nat.le_refl _) (bitsF_bit a l)
    have hR := groups_rest hb _ (bitsF a l) (Nat.le_refl _)
    have hRb : bit (groups b (bitsF a l)).2 := fun y hy => bitsF_bit a l y (by rw [← i1]; exact List.mem_append_right _ hy)
    generalize groups b (bitsF a l) = g at *
    obtain ⟨G, R⟩ := g
    simp only at *
    simp only [if_true] at h
    obtain rfl := Option.some.inj h
    have key : ∃ k, k < b ∧ bitsF b (G ++ padF b R) = bitsF a l ++ List.replicate k 0 := by
      unfold padF
      split
      · rename_i hn
        subst hn
        exact ⟨0, hb, by simpa using i1⟩
      · rename_i hn
        have hn' : 0 < R.length := List.length_pos_iff.2 hn
        refine ⟨b - R.length, by omega, ?_⟩
        have e1 : bitsF b (G ++ [valB R * 2 ^ (b - R.length)]) = bitsF b G ++ bitsV b (valB R * 2 ^ (b - R.length)) := by simp [bitsF]
        have e2 : valB R * 2 ^ (b - R.length) = valB (R ++ List.replicate (b - R.length) 0) := by rw [valB_app, valB_zeros, List.length_replicate, Int.add_zero]
        have e3 := bitsV_of (l := R ++ List.replicate (b - R.length) 0) (bit_app hRb fun y hy => .inl (List.mem_replicate.1 hy).2)
        have e4 : (R ++ List.replicate (b - R.length) (0 : Int)).length = b := by simp; omega
        rw [e4] at e3
        rw [e1, e2, e3, ← List.append_assoc, i1]
    obtain ⟨k, hk, hkey⟩ := key
    have hg := groups_bits ha l (List.replicate k 0) (fits_b hf hl) (by rw [List.length_replicate]; omega)
    unfold regF
    rw [if_pos (show fits b (G ++ padF b R) from fun v hv => (hx v hv).2), hkey, hg]
    simp only [Bool.false_eq_true, if_false, List.length_replicate, valB_zeros]
    rw [if_neg (by omega)]
  · cases h
/-! ### The model's arithmetic, at what is used here -/
theorem min64 {n : Nat} (h : n ≤ 64) : Nat.min n IntKind.i64.bits = n := Nat.min_eq_left h
theorem min8 {n : Nat} (h : n ≤ 8) : Nat.min n IntKind.u8.bits = n := Nat.min_eq_left h
theorem fdiv_2 (a : Int) (n : Nat) : a.fdiv (2 ^ n) = a / 2 ^ n := Int.fdiv_eq_ediv_of_nonneg _ (by have := pow_pos' n; omega)
theorem ofInt_nat (k : Nat) (x : Nat) : BitVec.ofInt k (x : Int) = BitVec.ofNat k x := by
  rw [← BitVec.ofInt_natCast]
theorem or_is {a b : Int} {n : Nat} (ha : 0 ≤ a) (hb : 0 ≤ b ∧ b < 2 ^ n) (hl : a * 2 ^ n + b < 9223372036854775808) :
    IntKind.i64.wrap (((BitVec.ofInt IntKind.i64.bits (a * 2 ^ n) ||| BitVec.ofInt IntKind.i64.bits b).toNat : Nat) : Int) = a * 2 ^ n + b := by
  obtain ⟨x, rfl⟩ := Int.eq_ofNat_of_zero_le ha
  obtain ⟨y, rfl⟩ := Int.eq_ofNat_of_zero_le hb.1
  have hy : y < 2 ^ n := by exact_mod_cast hb.2
  have e0 : ((x : Nat) : Int) * 2 ^ n + ((y : Nat) : Int) = ((x * 2 ^ n + y : Nat) : Int) := by rw [Int.natCast_add, Int.natCast_mul, Int.natCast_pow]; rfl
  have hl' : x * 2 ^ n + y < 9223372036854775808 := by omega
  have e1 : ((x : Nat) : Int) * 2 ^ n = ((x * 2 ^ n : Nat) : Int) := by rw [Int.natCast_mul, Int.natCast_pow]; rfl
  have e2 : (BitVec.ofNat 64 (x * 2 ^ n) ||| BitVec.ofNat 64 y).toNat = x * 2 ^ n + y := by
    rw [BitVec.toNat_or, BitVec.toNat_ofNat, BitVec.toNat_ofNat, Nat.mod_eq_of_lt (by omega), Nat.mod_eq_of_lt (by omega), Nat.mul_comm, Nat.two_pow_add_eq_or_of_lt hy]
  rw [e1, ofInt_nat, ofInt_nat]
  show IntKind.i64.wrap (((BitVec.ofNat 64 (x * 2 ^ n) ||| BitVec.ofNat 64 y).toNat : Nat) : Int) = _
  rw [e2, wrap_i64 (by omega) (by omega), Int.natCast_add]
theorem and_is {a : Int} {n : Nat} (ha : 0 ≤ a ∧ a < 9223372036854775808) (hn : n ≤ 62) :
    IntKind.i64.wrap (((BitVec.ofInt IntKind.i64.bits a &&& BitVec.ofInt IntKind.i64.bits (2 ^ n - 1)).toNat : Nat) : Int) = a % 2 ^ n := by
  obtain ⟨x, rfl⟩ := Int.eq_ofNat_of_zero_le ha.1
  have hp := Nat.pow_le_pow_right (n := 2) (by decide) hn
  have hp0 := Nat.pow_pos (n := n) (show 0 < 2 by decide)
  have e1 : (2 : Int) ^ n - 1 = ((2 ^ n - 1 : Nat) : Int) := by rw [Int.natCast_sub hp0, Int.natCast_pow]; rfl
  have e2 : (BitVec.ofNat 64 x &&& BitVec.ofNat 64 (2 ^ n - 1)).toNat = x % 2 ^ n := by
    rw [BitVec.toNat_and, BitVec.toNat_ofNat, BitVec.toNat_ofNat, Nat.mod_eq_of_lt (by omega), Nat.mod_eq_of_lt (a := 2 ^ n - 1) (by omega), Nat.and_two_pow_sub_one_eq_mod]
  rw [e1, ofInt_nat, ofInt_nat]
  show IntKind.i64.wrap (((BitVec.ofNat 64 x &&& BitVec.ofNat 64 (2 ^ n - 1)).toNat : Nat) : Int) = _
  have hm := Nat.mod_lt x hp0
  rw [e2, wrap_i64 (by omega) (by omega), Int.natCast_emod, Int.natCast_pow]; rfl
theorem shl_is {a : Int} {n : Nat} (ha : 0 ≤ a * 2 ^ n ∧ a * 2 ^ n < 9223372036854775808) : IntKind.i64.wrap (a * 2 ^ n) = a * 2 ^ n := wrap_i64 (by omega) (by omega)
end Go.Proofs
