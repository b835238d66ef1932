/- The law WireWrites: its walk. -/
import Derived.Test.YthjijgmhicplaaaWA
set_option linter.unusedSimpArgs false
set_option linter.unusedVariables false
set_option linter.constructorNameAsVariable false
namespace Go.Proofs
open Go.Vc
set_option maxRecDepth 10000

theorem rdS_at {w : World} {q : Option Addr} {n c size : Nat} {xs : List (Array Value)} (h : rdS w size (.slice q n c) = some (xs.flatMap Array.toList).toArray) (hl : xs.length = n) (hs : ∀ x ∈ xs, x.size = size) {i : Nat} (hi : i < n) :
    ∃ b o, q = some ⟨b, o, none⟩ ∧ rdO w.heap[b]? (o + i * size) size = some xs[i] := by
  simp only [rdS] at h
  rw [if_neg (by omega)] at h
  split at h
  · rename_i b o
    refine ⟨b, o, rfl, ?_⟩
    rw [rdN_heap] at h
    cases hb : w.heap[b]? with
    | none => rw [hb] at h; cases h
    | some x =>
      rw [hb] at h
      cases x with
      | cells d t fr =>
        simp only [rdO] at h
        split at h
        · rename_i hle
          simp only [Option.some.injEq] at h
          have hle1 : (i + 1) * size ≤ n * size := Nat.mul_le_mul_right _ hi
          rw [Nat.add_mul, Nat.one_mul] at hle1
          rw [rdO_some _ _ _ _ _ (by omega)]
          congr 1
          apply Array.ext'
          have ht : ((xs.flatMap Array.toList).drop (i * size)).take size = xs[i].toList := by
            rw [flat_drop i hs, List.drop_eq_getElem_cons (by omega), List.flatMap_cons, List.take_append_of_le_length (by simp [hs _ (List.getElem_mem (show i < xs.length by omega))]), List.take_of_length_le (by simp [hs _ (List.getElem_mem (show i < xs.length by omega))])]
          have h2 : (d.extract o (o + n * size)).toList = xs.flatMap Array.toList := by rw [h]
          rw [← ht, ← h2]
          simp only [Array.toList_extract, List.extract_eq_take_drop, List.drop_take, List.take_take, List.drop_drop]
          congr 1; omega
        · cases h
      | _ => cases h
  · cases h

theorem rdO_cell {o : Option Obj} {a n : Nat} {cs : Array Value} (h : rdO o a n = some cs) {j : Nat} (hj : j < n) : cellO o (a + j) = cs[j]? := by
  cases o with
  | none => cases h
  | some x =>
    cases x with
    | cells d t fr =>
      simp only [rdO] at h
      split at h
      · simp only [Option.some.injEq] at h
        subst h
        rw [cellO_some, Array.getElem?_extract]
        rw [if_pos (by omega)]
      · cases h
    | _ => cases h

/-- Acts. -/
structure ActsAt (w : World) (q : Option Addr) (n c : Nat) (xs : List (Array Value)) : Prop where
  len : xs.length = n
  mx : n ≤ maxLen
  rd : rdS w 3 (.slice q n c) = some (xs.flatMap Array.toList).toArray
  act : ∀ x ∈ xs, ∃ kind m b, ActAt w x kind m b
theorem ActAt.size {w : World} {a : Array Value} {kind n : Int} {b : List Int} (h : ActAt w a kind n b) : a.size = 3 := by
  obtain ⟨⟨x, rfl, _⟩, _, _⟩ := h; rfl
theorem ActsAt.at {w0 w : World} {q : Option Addr} {n c : Nat} {xs : List (Array Value)} (h : ActsAt w0 q n c xs) (k : Ext w0 w) {i : Nat} (hi : i < n) :
    ∃ b o a kind m bs, q = some ⟨b, o, none⟩ ∧ rdO w.heap[b]? (o + i * 3) 3 = some a ∧ ActAt w0 a kind m bs ∧ a.size = 3 ∧ cellO w.heap[b]? (o + i * 3) = some (.int .i64 kind) ∧ cellO w.heap[b]? (o + i * 3 + 1) = some (.int .u64 m) ∧ xs[i]? = some a := by
  have hrd := rdS_keep h.rd k fun _ _ h => h
  obtain ⟨b, o, rfl, h1⟩ := rdS_at hrd h.len (fun x hx => by obtain ⟨_, _, _, h⟩ := h.act x hx; exact h.size) hi
  have hl : i < xs.length := by rw [h.len]; exact hi
  obtain ⟨kind, m, bs, ha⟩ := h.act _ (List.getElem_mem hl)
  have c0 := rdO_cell h1 (j := 0) (by omega)
  have c1 := rdO_cell h1 (j := 1) (by omega)
  obtain ⟨⟨x, hx, _⟩, _, _⟩ := id ha
  rw [hx] at c0 c1
  exact ⟨b, o, _, kind, m, bs, rfl, h1, ha, ha.size, c0, c1, List.getElem?_eq_getElem hl⟩

theorem sizeF_wide {n : Int} (h : 0 ≤ n) : (sizeF n).length = wideF n + 1 := by
  unfold sizeF wideF
  by_cases h1 : n < 253
  · rw [if_pos h1, if_pos h1]; rfl
  by_cases h2 : n < 65536
  · rw [if_neg h1, if_pos h2, if_neg h1, if_pos h2]; simp [lowF_len]
  by_cases h3 : n < 4294967296
  · rw [if_neg h1, if_neg h2, if_pos h3, if_neg h1, if_neg h2, if_pos h3]; simp [lowF_len]
  · rw [if_neg h1, if_neg h2, if_neg h3, if_neg h1, if_neg h2, if_neg h3]; simp [lowF_len]
theorem St.start {p : Nat} (w0 w : World) (hE : Ext w0 w) (hp : w.heap[p]? = some (.cells #[.slice none 0 0] 75 (0, 0))) (hl : w0.heap.size ≤ p) : St w0 w p (.slice none 0 0) (.slice none 0 0) [] [] :=
  ⟨hE, ⟨hp, Own1.nil w⟩, hl, fun g h => (by cases h), ⟨Own1.nil w, hE, fun g h => (by cases h)⟩, fun g h => (by cases h)⟩

end Go.Proofs
