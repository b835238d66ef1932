/- A journal on a disk: plain. -/
import Derived.Test.YtfackfekmadjbaaD6
set_option linter.unusedSimpArgs false
set_option linter.unusedVariables false
set_option linter.constructorNameAsVariable false
namespace Go.Proofs
open Go.Vc
set_option maxRecDepth 10000

/-- A journal: its head, where the next mark goes, its state, its records. -/
structure JS where
  head : Int
  pos : Nat
  state : List Int
  recs : List (List Int)
def secs (n : Nat) : Nat := (n - 1) / 2
def baseN (n : Nat) (h : Int) : Nat := 1 + (h % 2).toNat * secs n
def byteD (s : Int → Sec) (i c : Nat) : Option Int := (s ((i : Nat) : Int))[c]?
def tail1 (b : List Int) : List Int := lowF 4 b.length ++ b
def frame1 (b : List Int) : List Int := 1 :: tail1 b
def layF (l : List (List Int)) : List Int := l.flatMap frame1
def allR (J : JS) : List (List Int) := if J.head = 0 then J.recs else J.state :: J.recs
/-- The bytes of an area begin so. -/
def Laid (s : Int → Sec) (n : Nat) (h : Int) (l : List Int) : Prop := ∀ o, o < l.length → byteD s (baseN n h + o / 64) (o % 64) = l[o]?
structure JInv (d : DS) (J : JS) : Prop where
  ok : d.Ok
  n : 16 ≤ d.n
  head : 0 ≤ J.head ∧ J.head ≤ 2
  st : J.head = 0 → J.state = []
  pos : J.pos = (layF (allR J)).length
  room : J.pos + 1 ≤ 64 * secs d.n
  bys : ∀ b ∈ allR J, byt b
  small : ∀ b ∈ allR J, b.length < 4294967296
  h0 : byteD d.safe 0 0 = some J.head
  laid : Laid d.safe d.n J.head (layF (allR J) ++ [0])

theorem frame1_len (b : List Int) : (frame1 b).length = 5 + b.length := by simp [frame1, tail1, lowF_len]; omega
theorem settle_byte : ∀ (l : List Wr) (s : Int → Sec) (i c : Nat), byteD (settleF s l) i c = byteD s i c ∨ ∃ x ∈ l, x.1 = ((i : Nat) : Int) ∧ byteD (settleF s l) i c = x.2[c]?
  | [], s, i, c => .inl rfl
  | x :: l, s, i, c => by
    have e : settleF s (x :: l) = settleF (setS s x.1 x.2) l := rfl
    rw [e]
    rcases settle_byte l (setS s x.1 x.2) i c with h | ⟨y, hy, h1, h2⟩
    · rw [h]
      by_cases hx : ((i : Nat) : Int) = x.1
      · refine .inr ⟨x, by simp, hx.symm, ?_⟩
        unfold byteD setS
        rw [if_pos hx]
      · refine .inl ?_
        unfold byteD setS
        rw [if_neg hx]
    · exact .inr ⟨y, List.mem_cons_of_mem _ hy, h1, h2⟩
theorem crash_byte (s : Int → Sec) (l : List Wr) (n b : Nat) (hl : ∀ x ∈ l, x.2.length = 64) (hb : b ≤ 64) (i c : Nat) :
    byteD (crashS s l n b) i c = byteD s i c ∨ ∃ x ∈ l, x.1 = ((i : Nat) : Int) ∧ byteD (crashS s l n b) i c = x.2[c]? := by
  have base : byteD (settleF s (l.take n)) i c = byteD s i c ∨ ∃ x ∈ l, x.1 = ((i : Nat) : Int) ∧ byteD (settleF s (l.take n)) i c = x.2[c]? := by
    rcases settle_byte (l.take n) s i c with h | ⟨x, hx, h1, h2⟩
    · exact .inl h
    · exact .inr ⟨x, List.mem_of_mem_take hx, h1, h2⟩
  unfold crashS
  cases hd : l.drop n with
  | nil => exact base
  | cons x t =>
    have hx : x ∈ l := List.mem_of_mem_drop (i := n) (by rw [hd]; simp)
    simp only
    by_cases hi : ((i : Nat) : Int) = x.1
    · by_cases hc : c < b
      · refine .inr ⟨x, hx, hi.symm, ?_⟩
        unfold byteD tearS setS
        rw [if_pos hi, List.getElem?_append_left (by rw [List.length_take, hl x hx]; omega), List.getElem?_take_of_lt hc]
      · have e : byteD (tearS (settleF s (l.take n)) x b) i c = byteD (settleF s (l.take n)) i c := by
          unfold byteD tearS setS
          rw [if_pos hi, List.getElem?_append_right (by rw [List.length_take]; omega), List.length_take, hl x hx, List.getElem?_drop, ← hi]
          congr 1
          omega
        rw [e]; exact base
    · have e : byteD (tearS (settleF s (l.take n)) x b) i c = byteD (settleF s (l.take n)) i c := by
        unfold byteD tearS setS
        rw [if_neg hi]
      rw [e]; exact base
/-- Bytes in sectors, from one on. -/
def planF : Nat → Nat → List Int → List Wr
  | 0, _, _ => []
  | k + 1, i, all => if all = [] then [] else (((i : Nat) : Int), padS (all.take 64)) :: planF k (i + 1) (all.drop 64)
def plan (i : Nat) (all : List Int) : List Wr := planF all.length i all
theorem planF_more : ∀ (k m i : Nat) (all : List Int), all.length ≤ k → all.length ≤ m → planF k i all = planF m i all
  | 0, 0, _, _, _, _ => rfl
  | 0, m + 1, _, all, h, _ => by
    have : all = [] := List.eq_nil_of_length_eq_zero (by omega)
    rw [planF, planF, if_pos this]
  | k + 1, 0, _, all, _, h => by
    have : all = [] := List.eq_nil_of_length_eq_zero (by omega)
    rw [planF, planF, if_pos this]
  | k + 1, m + 1, i, all, h1, h2 => by
    rw [planF, planF]
    by_cases h : all = []
    · rw [if_pos h, if_pos h]
    · have hp := List.length_pos_iff.2 h
      rw [if_neg h, if_neg h, planF_more k m (i + 1) (all.drop 64) (by rw [List.length_drop]; omega) (by rw [List.length_drop]; omega)]
theorem plan_nil (i : Nat) : plan i [] = [] := rfl
theorem plan_cons {i : Nat} {all : List Int} (h : all ≠ []) : plan i all = (((i : Nat) : Int), padS (all.take 64)) :: plan (i + 1) (all.drop 64) := by
  have hp := List.length_pos_iff.2 h
  unfold plan
  have e : planF all.length i all = planF ((all.length - 1) + 1) i all := planF_more _ _ _ _ (by omega) (by omega)
  rw [e, planF, if_neg h, planF_more (all.length - 1) (all.drop 64).length _ _ (by rw [List.length_drop]; omega) (Nat.le_refl _)]
theorem settle_planF : ∀ (k i : Nat) (all : List Int) (s : Int → Sec) (j : Nat), all.length ≤ k →
    settleF s (planF k i all) ((j : Nat) : Int) = if i ≤ j ∧ 64 * (j - i) < all.length then padS ((all.drop (64 * (j - i))).take 64) else s ((j : Nat) : Int)
  | 0, i, all, s, j, h => by rw [if_neg (by omega)]; rfl
  | k + 1, i, all, s, j, h => by
    rw [planF]
    by_cases h0 : all = []
    · rw [if_pos h0, if_neg (by subst h0; simp)]; rfl
    · have hp := List.length_pos_iff.2 h0
      rw [if_neg h0]
      have e : settleF s ((((i : Nat) : Int), padS (all.take 64)) :: planF k (i + 1) (all.drop 64)) = settleF (setS s ((i : Nat) : Int) (padS (all.take 64))) (planF k (i + 1) (all.drop 64)) := rfl
      rw [e, settle_planF k (i + 1) (all.drop 64) _ j (by rw [List.length_drop]; omega), List.length_drop]
      rcases Nat.lt_trichotomy j i with hj | hj | hj
      · rw [if_neg (by omega), if_neg (by omega)]
        unfold setS; rw [if_neg (by omega)]
      · subst hj
        rw [if_neg (by omega), if_pos (by omega), Nat.sub_self, Nat.mul_zero, List.drop_zero]
        unfold setS; rw [if_pos rfl]
      · have ej : 64 * (j - i) = 64 + 64 * (j - (i + 1)) := by omega
        by_cases hl : 64 * (j - i) < all.length
        · rw [if_pos (by omega), if_pos (by omega), List.drop_drop, ej]
        · rw [if_neg (by omega), if_neg (by omega)]
          unfold setS; rw [if_neg (by omega)]
theorem plan_mem : ∀ (k i : Nat) (all : List Int) (x : Wr), x ∈ planF k i all → ∃ t, x.1 = ((i + t : Nat) : Int) ∧ 64 * t < all.length ∧ x.2 = padS ((all.drop (64 * t)).take 64)
  | 0, _, _, _, h => by cases h
  | k + 1, i, all, x, h => by
    rw [planF] at h
    split at h
    · cases h
    · rename_i h0
      have hp := List.length_pos_iff.2 h0
      rcases List.mem_cons.1 h with rfl | h
      · exact ⟨0, rfl, by omega, by rw [Nat.mul_zero, List.drop_zero]⟩
      · obtain ⟨t, h1, h2, h3⟩ := plan_mem k (i + 1) (all.drop 64) x h
        rw [List.length_drop] at h2
        refine ⟨t + 1, by rw [h1]; congr 1; omega, by omega, ?_⟩
        rw [h3, List.drop_drop]
        congr 3
        omega
theorem pad_byte {bs : List Int} {c : Nat} (h : c < bs.length) : (padS bs)[c]? = bs[c]? := by
  unfold padS; rw [List.getElem?_append_left h]
theorem chunk_byte {all : List Int} {t c : Nat} (hc : c < 64) (h : 64 * t + c < all.length) : (padS ((all.drop (64 * t)).take 64))[c]? = all[64 * t + c]? := by
  rw [pad_byte (by rw [List.length_take, List.length_drop]; omega), List.getElem?_take_of_lt hc, List.getElem?_drop]
theorem plan_len {i : Nat} {all : List Int} : ∀ x ∈ plan i all, x.2.length = 64 := by
  intro x hx
  obtain ⟨t, _, _, h3⟩ := plan_mem _ _ _ _ hx
  rw [h3]
  unfold padS
  rw [List.length_append, List.length_replicate, List.length_take]
  omega
theorem padS_full {bs : List Int} (h : bs.length = 64) : padS bs = bs := by
  unfold padS; rw [h]; simp
end Go.Proofs
