/- Plain: what a crash leaves of a sector. -/
import Derived.Test.YtehloghkgdilkaaDD
set_option linter.unusedSimpArgs false
set_option linter.unusedVariables false
set_option linter.constructorNameAsVariable false
namespace Go.Proofs
open Go.Vc
set_option maxRecDepth 10000

/-- The k-th beginning of a write over what was there. -/
def over (x old : Sec) (k : Nat) : Sec := x.take k ++ old.drop k
theorem over_all {x old : Sec} (h : x.length = 64) (h2 : old.length = 64) : over x old 64 = x := by
  unfold over
  rw [List.take_of_length_le (by omega), List.drop_eq_nil_of_le (by omega), List.append_nil]
theorem settle_cases {s : Int → Sec} {l : List Wr} {i : Int} : ∀ n, n ≤ l.length → settleF s (l.take n) i = s i ∨ ∃ j, ∃ h : j < l.length, j < n ∧ l[j].1 = i ∧ settleF s (l.take n) i = l[j].2
  | 0, _ => .inl rfl
  | n + 1, hn => by
    have hn' : n ≤ l.length := Nat.le_of_succ_le hn
    rw [settleF_succ s l (show n < l.length from hn)]
    unfold setS
    by_cases hi : i = l[n].1
    · rw [if_pos hi]
      exact .inr ⟨n, by omega, by omega, hi.symm, rfl⟩
    · rw [if_neg hi]
      rcases settle_cases (s := s) (i := i) n hn' with h | ⟨j, h1, h2, h3, h4⟩
      · exact .inl h
      · exact .inr ⟨j, h1, by omega, h3, h4⟩
/-- Was it found among the first n writes? -/
def hit (d : DS) (B : Sec) (i : Int) (n : Nat) : Prop := B = d.safe i ∨ ∃ j, ∃ h : j < d.queue.length, j < n ∧ d.queue[j].1 = i ∧ ∃ k, k ≤ 64 ∧ B = over d.queue[j].2 (settleF d.safe (d.queue.take j) i) k
theorem crash_hit {d : DS} (hd : d.Ok) (keep torn i : Int) : hit d ((crashD d keep torn).safe i) i d.queue.length := by
  have h1 := modF_b keep (m := (d.queue.length : Int) + 1) (by omega)
  have h2 := modF_b torn (m := 64) (by omega)
  have e : (crashD d keep torn).safe = crashS d.safe d.queue (modF keep (d.queue.length + 1)).toNat (modF torn 64).toNat := rfl
  rw [e]
  generalize hn : (modF keep ((d.queue.length : Int) + 1)).toNat = n
  generalize ht : (modF torn 64).toNat = t
  have hn' : n ≤ d.queue.length := by omega
  have ht' : t ≤ 64 := by omega
  have hset : hit d (settleF d.safe (d.queue.take n) i) i d.queue.length := by
    rcases settle_cases (s := d.safe) (i := i) n hn' with h | ⟨j, h1, h2, h3, h4⟩
    · exact .inl h
    · refine .inr ⟨j, h1, h1, h3, 64, Nat.le_refl _, ?_⟩
      rw [h4, over_all (hd.queue _ (List.getElem_mem h1)).1.1 (settleF_ok hd.safe (fun x hx => (hd.queue x (List.mem_of_mem_take hx)).1) i).1]
  unfold crashS
  by_cases hl : n < d.queue.length
  · rw [List.drop_eq_getElem_cons hl]
    simp only [tearS, setS]
    by_cases hi : i = d.queue[n].1
    · rw [if_pos hi]
      refine .inr ⟨n, hl, hl, hi.symm, t, ht', ?_⟩
      rw [over, hi]
    · rw [if_neg hi]; exact hset
  · rw [List.drop_eq_nil_of_le (by omega)]; exact hset
theorem hit_succ {d : DS} {B : Sec} {i : Int} {n : Nat} (hn : n < d.queue.length) (h : hit d B i (n + 1)) : hit d B i n ∨ (d.queue[n].1 = i ∧ ∃ k, k ≤ 64 ∧ B = over d.queue[n].2 (settleF d.safe (d.queue.take n) i) k) := by
  rcases h with h | ⟨j, h1, h2, h3, h4⟩
  · exact .inl (.inl h)
  · by_cases hj : j = n
    · subst hj; exact .inr ⟨h3, h4⟩
    · exact .inl (.inr ⟨j, h1, by omega, h3, h4⟩)
end Go.Proofs
