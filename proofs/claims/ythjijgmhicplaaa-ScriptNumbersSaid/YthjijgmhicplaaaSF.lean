/- Plain: numbers as bytes, and back. -/
import Derived.Test.YthjijgmhicplaaaSE
set_option linter.unusedSimpArgs false
set_option linter.unusedVariables false
set_option linter.constructorNameAsVariable false
namespace Go.Proofs
open Go.Vc
set_option maxRecDepth 10000

/-- The magnitude that bytes tell; the sign; whether they are as few as can be. -/
def magF : List Int → Int
  | [] => 0
  | [x] => x % 128
  | x :: t => x + 256 * magF t
def negF : List Int → Bool
  | [] => false
  | [x] => decide (128 ≤ x)
  | _ :: t => negF t
def okF : List Int → Bool
  | [] => true
  | [x] => decide (x % 128 ≠ 0)
  | [y, x] => decide (x % 128 ≠ 0 ∨ 128 ≤ y)
  | _ :: t => okF t
def svalF (b : List Int) : Int := if negF b then -magF b else magF b
def fromF (b : List Int) (most : Int) : Int × Int :=
  if (b.length : Int) > most ∨ b.length > 8 then (0, 2) else if okF b then (svalF b, 0) else (0, 3)
theorem magF_cons (x y : Int) (t : List Int) : magF (x :: y :: t) = x + 256 * magF (y :: t) := rfl
theorem negF_cons (x y : Int) (t : List Int) : negF (x :: y :: t) = negF (y :: t) := rfl
theorem magF_r : ∀ {b : List Int}, byt b → b ≠ [] → 0 ≤ magF b ∧ 2 * magF b + 2 ≤ 256 ^ b.length
  | [], _, h => absurd rfl h
  | [x], hb, _ => by
    have := hb x (by simp)
    show 0 ≤ x % 128 ∧ 2 * (x % 128) + 2 ≤ 256 ^ 1
    rw [show (256 : Int) ^ 1 = 256 from rfl]; omega
  | x :: y :: t, hb, _ => by
    have hx := hb x (by simp)
    have ih := magF_r (b := y :: t) (fun z hz => hb z (List.mem_cons_of_mem _ hz)) (by simp)
    rw [magF_cons, List.length_cons, Int.pow_succ]
    omega
theorem magF_0 : ∀ {b : List Int}, byt b → b ≠ [] → magF b = 0 → okF b = false
  | [], _, h, _ => absurd rfl h
  | [x], hb, _, h => by
    have h' : x % 128 = 0 := h
    simp [okF, h']
  | [y, x], hb, _, h => by
    have hy := hb y (by simp)
    have hx := hb x (by simp)
    have h' : y + 256 * (x % 128) = 0 := h
    have e1 : x % 128 = 0 := by omega
    have e2 : ¬ 128 ≤ y := by omega
    simp [okF, e1]; omega
  | y :: x :: z :: t, hb, _, h => by
    have hy := hb y (by simp)
    have hbt : byt (x :: z :: t) := fun u hu => hb u (List.mem_cons_of_mem _ hu)
    have hr := magF_r hbt (by simp)
    rw [magF_cons] at h
    show okF (x :: z :: t) = false
    exact magF_0 hbt (by simp) (by omega)
theorem sgn_cons (neg : Bool) (x : Int) {l : List Int} (h : l ≠ []) : sgn neg (x :: l) = x :: sgn neg l := by
  cases l with
  | nil => exact absurd rfl h
  | cons y t => rfl
theorem digF_0 (k : Nat) : digF k 0 = [] := by cases k <;> rfl
theorem digF_ne {k : Nat} {m : Int} (hk : 0 < k) (hm : 0 < m) : digF k m ≠ [] := by
  cases k with
  | zero => omega
  | succ k => rw [digF, if_pos hm]; simp
theorem sgn_len (neg : Bool) : ∀ (l : List Int), (sgn neg l).length ≤ l.length + 1
  | [] => by simp [sgn]
  | [x] => by rw [sgn]; split <;> simp
  | x :: y :: t => by
    rw [sgn_cons neg x (by simp), List.length_cons, List.length_cons]
    have := sgn_len neg (y :: t); omega
/-- Bytes are a number's just if they are as few as can be. -/
theorem key : ∀ (b : List Int) (k : Nat), byt b → b.length ≤ k → 0 < magF b → (sgn (negF b) (digF k (magF b)) = b ↔ okF b = true)
  | [], _, _, _, h => by simp [magF] at h
  | [x], 0, _, hk, _ => by simp at hk
  | [x], k + 1, hb, _, h => by
    have hx := hb x (by simp)
    have h' : 0 < x % 128 := h
    have e1 : x % 128 % 256 = x % 128 := by omega
    have e2 : x % 128 / 256 = 0 := by omega
    show sgn (decide (128 ≤ x)) (digF (k + 1) (x % 128)) = [x] ↔ decide (x % 128 ≠ 0) = true
    rw [digF, if_pos h', e1, e2, digF_0, sgn, if_neg (by omega)]
    by_cases hn : 128 ≤ x
    · rw [decide_eq_true hn]
      simp only [if_true]
      exact ⟨fun _ => decide_eq_true (by omega), fun _ => by congr 1; omega⟩
    · rw [decide_eq_false hn]
      exact ⟨fun _ => decide_eq_true (by omega), fun _ => by show [x % 128] = [x]; congr 1; omega⟩
  | x :: y :: t, 0, _, hk, _ => by simp at hk
  | x :: y :: t, k + 1, hb, hk, h => by
    have hx := hb x (by simp)
    have hbt : byt (y :: t) := fun u hu => hb u (List.mem_cons_of_mem _ hu)
    have hr := magF_r hbt (by simp)
    rw [magF_cons] at h
    rw [magF_cons, negF_cons, digF, if_pos h, show (x + 256 * magF (y :: t)) % 256 = x by omega, show (x + 256 * magF (y :: t)) / 256 = magF (y :: t) by omega]
    rw [List.length_cons] at hk
    by_cases hm : 0 < magF (y :: t)
    · have hk0 : 0 < k := by rw [List.length_cons] at hk; omega
      rw [sgn_cons _ _ (digF_ne hk0 hm)]
      have ih := key (y :: t) k hbt (by omega) hm
      have hok : okF (x :: y :: t) = okF (y :: t) := by
        cases t with
        | nil =>
          have h' : 0 < y % 128 := hm
          have e : y % 128 ≠ 0 := by omega
          simp [okF, e]
        | cons z t => rfl
      rw [hok, ← ih]
      exact ⟨fun h => (List.cons.inj h).2, fun h => by rw [h]⟩
    · have hm0 : magF (y :: t) = 0 := by omega
      rw [hm0, digF_0]
      cases t with
      | nil =>
        have hy := hb y (by simp)
        have h0 : y % 128 = 0 := hm0
        show sgn (decide (128 ≤ y)) [x] = [x, y] ↔ decide (y % 128 ≠ 0 ∨ 128 ≤ x) = true
        rw [sgn]
        by_cases hx8 : 128 ≤ x
        · rw [if_pos hx8]
          refine ⟨fun _ => decide_eq_true (.inr hx8), fun _ => ?_⟩
          by_cases hn : 128 ≤ y
          · rw [decide_eq_true hn]; simp only [if_true]; congr 2; omega
          · rw [decide_eq_false hn]; show [x, 0] = [x, y]; congr 2; omega
        · rw [if_neg hx8]
          refine ⟨fun h => ?_, fun h => ?_⟩
          · have := congrArg List.length h; simp at this
          · have := of_decide_eq_true h; omega
      | cons z t =>
        have hok : okF (x :: y :: z :: t) = okF (y :: z :: t) := rfl
        rw [hok, magF_0 hbt (by simp) hm0]
        refine ⟨fun h => ?_, fun h => by cases h⟩
        have h1 := congrArg List.length h
        have h2 := sgn_len (negF (y :: z :: t)) [x]
        simp only [List.length_cons, List.length_nil] at h1 h2; omega
theorem num_sval {b : List Int} (hb : byt b) (hl : b.length ≤ 8) : numF (svalF b) = b ↔ okF b = true := by
  by_cases hb0 : b = []
  · subst hb0; exact ⟨fun _ => rfl, fun _ => rfl⟩
  have hr := magF_r hb hb0
  have hp : (256 : Int) ^ b.length ≤ 256 ^ 8 := pow256_le hl
  have h8 : (256 : Int) ^ 8 = 18446744073709551616 := rfl
  by_cases hm : 0 < magF b
  · have e1 : absF (svalF b) = magF b := by
      unfold absF svalF
      cases negF b
      · simp only [Bool.false_eq_true, if_false]; rw [if_neg (by omega)]
      · simp only [if_true]; rw [if_pos (by omega), if_neg (by omega)]; omega
    have e2 : decide (svalF b < 0) = negF b := by
      unfold svalF
      cases negF b
      · simp only [Bool.false_eq_true, if_false]; exact decide_eq_false (by omega)
      · simp only [if_true]; exact decide_eq_true (by omega)
    rw [numF, e1, e2]
    exact key b 8 hb hl hm
  · have hm0 : magF b = 0 := by omega
    have e : svalF b = 0 := by unfold svalF; rw [hm0]; cases negF b <;> rfl
    rw [e, magF_0 hb hb0 hm0]
    exact ⟨fun h => absurd h.symm hb0, fun h => by cases h⟩
theorem mag_sgn (neg : Bool) : ∀ (k : Nat) (m : Int), 0 ≤ m → m < 256 ^ k → magF (sgn neg (digF k m)) = m ∧ (0 < m → negF (sgn neg (digF k m)) = neg)
  | 0, m, h0, h1 => by
    have : m = 0 := by simp at h1; omega
    subst this; exact ⟨rfl, fun h => by omega⟩
  | k + 1, m, h0, h1 => by
    rw [Int.pow_succ] at h1
    rw [digF]
    by_cases hm : 0 < m
    · rw [if_pos hm]
      by_cases hq : 0 < m / 256
      · obtain ⟨i1, i2⟩ := mag_sgn neg k (m / 256) (by omega) (by omega)
        have hk0 : 0 < k := by
          cases k with
          | zero => simp at h1; omega
          | succ k => omega
        have hne := digF_ne hk0 hq
        have hne2 : sgn neg (digF k (m / 256)) ≠ [] := by
          intro h
          rw [h] at i1
          have : (0 : Int) = m / 256 := i1
          omega
        rw [sgn_cons neg _ hne]
        cases hs : sgn neg (digF k (m / 256)) with
        | nil => exact absurd hs hne2
        | cons z t =>
          rw [hs] at i1 i2
          rw [magF_cons, negF_cons, i1]
          exact ⟨by omega, fun _ => i2 hq⟩
      · have e : m / 256 = 0 := by omega
        have e2 : m % 256 = m := by omega
        rw [e, e2, digF_0, sgn]
        by_cases h8 : 128 ≤ m
        · rw [if_pos h8]
          cases neg
          · exact ⟨by show m + 256 * (0 % 128) = m; omega, fun _ => rfl⟩
          · exact ⟨by show m + 256 * (128 % 128) = m; omega, fun _ => rfl⟩
        · rw [if_neg h8]
          cases neg
          · exact ⟨by show m % 128 = m; omega, fun _ => by show decide (128 ≤ m) = false; exact decide_eq_false (by omega)⟩
          · exact ⟨by show (m + 128) % 128 = m; omega, fun _ => by show decide (128 ≤ m + 128) = true; exact decide_eq_true (by omega)⟩
    · have : m = 0 := by omega
      subst this; exact ⟨rfl, fun h => by omega⟩
theorem absF_lt {n : Int} (h : -9223372036854775808 ≤ n ∧ n ≤ 9223372036854775807) : absF n < 256 ^ 8 := by
  have := absF_r h
  have h8 : (256 : Int) ^ 8 = 18446744073709551616 := rfl
  omega
theorem truth_mag : ∀ {b : List Int}, byt b → truthF b = decide (magF b ≠ 0)
  | [], _ => rfl
  | [x], hb => by
    have hx := hb x (by simp)
    show (decide (x ≠ 0) && decide (x ≠ 128)) = decide (x % 128 ≠ 0)
    rw [← Bool.decide_and]
    exact decide_eq_decide.2 (by omega)
  | x :: y :: t, hb => by
    have hx := hb x (by simp)
    have hbt : byt (y :: t) := fun u hu => hb u (List.mem_cons_of_mem _ hu)
    have hr := magF_r hbt (by simp)
    show (decide (x ≠ 0) || truthF (y :: t)) = decide (magF (x :: y :: t) ≠ 0)
    rw [truth_mag hbt, magF_cons, ← Bool.decide_or]
    exact decide_eq_decide.2 (by omega)
theorem sgn_byt (neg : Bool) : ∀ {l : List Int}, byt l → byt (sgn neg l)
  | [], _ => byt_nil
  | [x], hb => by
    have hx := hb x (by simp)
    rw [sgn]
    split
    · intro z hz; cases neg <;> simp at hz <;> omega
    · intro z hz; cases neg <;> simp at hz <;> omega
  | x :: y :: t, hb => by
    rw [sgn_cons neg x (by simp)]
    intro z hz
    rcases List.mem_cons.1 hz with rfl | h
    · exact hb z (by simp)
    · exact sgn_byt neg (fun u hu => hb u (List.mem_cons_of_mem _ hu)) z h
theorem numF_byt (n : Int) : byt (numF n) := sgn_byt _ (digF_byt _ _)
theorem numF_len (n : Int) : (numF n).length ≤ 9 := by
  have h1 := sgn_len (decide (n < 0)) (digF 8 (absF n))
  have h2 := digF_len 8 (absF n)
  unfold numF; omega
theorem truth_num {n : Int} (h : -9223372036854775808 ≤ n ∧ n ≤ 9223372036854775807) : truthF (numF n) = decide (n ≠ 0) := by
  have hr := absF_r h
  rw [truth_mag (numF_byt n), numF, (mag_sgn _ 8 (absF n) hr.1 (absF_lt h)).1]
  refine decide_eq_decide.2 ?_
  unfold absF; split
  · split <;> omega
  · omega
theorem sval_num {n : Int} (h : -9223372036854775808 ≤ n ∧ n ≤ 9223372036854775807) (hn : n ≠ -9223372036854775808) : svalF (numF n) = n := by
  have hr := absF_r h
  obtain ⟨i1, i2⟩ := mag_sgn (decide (n < 0)) 8 (absF n) hr.1 (absF_lt h)
  have e : svalF (numF n) = if negF (numF n) then -absF n else absF n := by rw [svalF, numF, i1]
  rw [e]
  by_cases hneg : n < 0
  · have : negF (numF n) = true := by rw [numF, i2 (hr.2.2 hneg)]; exact decide_eq_true hneg
    rw [this, absF, if_pos hneg, if_neg hn]; simp
  · by_cases h0 : n = 0
    · subst h0; decide
    · have ha : absF n = n := by rw [absF, if_neg hneg]
      have : negF (numF n) = false := by rw [numF, i2 (by omega)]; exact decide_eq_false hneg
      rw [this, ha]; simp
/-- A number's bytes are read as it. -/
theorem from_num {n : Int} (h : -9223372036854775808 ≤ n ∧ n ≤ 9223372036854775807) (hl : (numF n).length ≤ 8) : ∃ b, fromF (numF n) 9 = (b, 0) ∧ (b = n ∨ n = -9223372036854775808) := by
  by_cases hn : n = -9223372036854775808
  · exact ⟨(fromF (numF n) 9).1, by subst hn; decide +kernel, .inr hn⟩
  · have hs := sval_num h hn
    have hok : okF (numF n) = true := (num_sval (numF_byt n) hl).1 (by rw [hs])
    refine ⟨n, ?_, .inl rfl⟩
    rw [fromF, if_neg (by omega), hok, hs]; rfl
end Go.Proofs
