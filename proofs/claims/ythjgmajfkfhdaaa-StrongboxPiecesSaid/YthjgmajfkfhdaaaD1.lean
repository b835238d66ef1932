/- Rows that begin anywhere in their block. -/
import Derived.Test.YthjgmajfkfhdaaaDK
import Derived.Test.YthjgmajfkfhdaaaM0
import Derived.Test.YthjgmajfkfhdaaaIt
set_option linter.unusedSimpArgs false
set_option linter.unusedVariables false
set_option linter.constructorNameAsVariable false
namespace Go.Proofs
open Go.Vc
set_option maxRecDepth 10000

theorem rdS_at {w : World} {q : Option Addr} {n c size : Nat} {xs : List (Array Value)} (h : rdS w size (.slice q n c) = some (xs.flatMap Array.toList).toArray) (hl : xs.length = n) (hs : ∀ x ∈ xs, x.size = size) {i : Nat} (hi : i < n) :
    ∃ b o, q = some ⟨b, o, none⟩ ∧ rdO w.heap[b]? (o + i * size) size = some xs[i] := by
  simp only [rdS] at h
  rw [if_neg (by omega)] at h
  split at h
  · rename_i b o
    refine ⟨b, o, rfl, ?_⟩
    rw [rdN_heap] at h
    cases hb : w.heap[b]? with
    | none => rw [hb] at h; cases h
    | some x =>
      rw [hb] at h
      cases x with
      | cells d t fr =>
        simp only [rdO] at h
        split at h
        · rename_i hle
          simp only [Option.some.injEq] at h
          have hle1 : (i + 1) * size ≤ n * size := Nat.mul_le_mul_right _ hi
          rw [Nat.add_mul, Nat.one_mul] at hle1
          rw [rdO_some _ _ _ _ _ (by omega)]
          congr 1
          apply Array.ext'
          have ht : ((xs.flatMap Array.toList).drop (i * size)).take size = xs[i].toList := by
            rw [flat_drop i hs, List.drop_eq_getElem_cons (by omega), List.flatMap_cons, List.take_append_of_le_length (by simp [hs _ (List.getElem_mem (show i < xs.length by omega))]), List.take_of_length_le (by simp [hs _ (List.getElem_mem (show i < xs.length by omega))])]
          have h2 : (d.extract o (o + n * size)).toList = xs.flatMap Array.toList := by rw [h]
          rw [← ht, ← h2]
          simp only [Array.toList_extract, List.extract_eq_take_drop, List.drop_take, List.take_take, List.drop_drop]
          congr 1; omega
        · cases h
      | _ => cases h
  · cases h

theorem rdO_cell {o : Option Obj} {a n : Nat} {cs : Array Value} (h : rdO o a n = some cs) {j : Nat} (hj : j < n) : cellO o (a + j) = cs[j]? := by
  cases o with
  | none => cases h
  | some x =>
    cases x with
    | cells d t fr =>
      simp only [rdO] at h
      split at h
      · simp only [Option.some.injEq] at h
        subst h
        rw [cellO_some, Array.getElem?_extract]
        rw [if_pos (by omega)]
      · cases h
    | _ => cases h

structure OwnO (w : World) (base el size : Nat) (v : Value) (ids : List (Array Value)) : Prop where
  sz : ∀ k ∈ ids, k.size = size
  at' : (v = .slice none 0 0 ∧ ids = []) ∨ ∃ g o cap cur, v = .slice (some ⟨g, o, none⟩) ids.length cap ∧ base ≤ g ∧ w.heap[g]? = some (.cells cur el (0, 0)) ∧ ids.length ≤ cap ∧ cap ≤ maxLen ∧ o + cap * size ≤ cur.size ∧
    (cur.toList.drop o).take (ids.length * size) = ids.flatMap Array.toList
theorem OwnO.nil (w : World) (base el size : Nat) : OwnO w base el size (.slice none 0 0) [] := ⟨fun _ h => (by cases h), .inl ⟨rfl, rfl⟩⟩
theorem OwnO.keep {S : Nat → Prop} {w w' : World} {base el size : Nat} {v : Value} {ids : List (Array Value)} (h : OwnO w base el size v ids) (k : Keep S w w') (hS : ∀ g, blk v g → ¬ S g) : OwnO w' base el size v ids := by
  obtain ⟨hs, h | ⟨g, o, cap, cur, rfl, hb, hg, r⟩⟩ := h
  · exact ⟨hs, .inl h⟩
  · exact ⟨hs, .inr ⟨g, o, cap, cur, rfl, hb, k.at hg (hS g rfl), r⟩⟩
theorem OwnO.ext {w w' : World} {base el size : Nat} {v : Value} {ids : List (Array Value)} (h : OwnO w base el size v ids) (k : Ext w w') : OwnO w' base el size v ids := h.keep k fun _ _ h => h
theorem OwnO.len {w : World} {base el size : Nat} {v : Value} {ids : List (Array Value)} (h : OwnO w base el size v ids) : lenR v = some (.int .i64 (ids.length : Nat)) := by
  obtain ⟨_, ⟨rfl, rfl⟩ | ⟨g, o, cap, cur, rfl, _⟩⟩ := h <;> rfl
theorem OwnO.one {w : World} {base el size : Nat} {v : Value} {ids : List (Array Value)} (h : OwnO w base el size v ids) : v.oneCell' = true := by
  obtain ⟨_, ⟨rfl, rfl⟩ | ⟨g, o, cap, cur, rfl, _⟩⟩ := h <;> rfl
theorem OwnO.is {w : World} {base el size : Nat} {v : Value} {ids : List (Array Value)} (h : OwnO w base el size v ids) : ∃ q c, v = .slice q ids.length c ∧ ids.length ≤ c := by
  obtain ⟨_, ⟨rfl, rfl⟩ | ⟨g, o, cap, cur, rfl, _, _, h, _⟩⟩ := h
  · exact ⟨_, _, rfl, Nat.le_refl _⟩
  · exact ⟨_, _, rfl, h⟩
theorem OwnO.blk {w : World} {base el size : Nat} {v : Value} {ids : List (Array Value)} (h : OwnO w base el size v ids) {g : Nat} (hg : blk v g) : base ≤ g ∧ ∃ c, w.heap[g]? = some (.cells c el (0, 0)) := by
  obtain ⟨_, ⟨rfl, rfl⟩ | ⟨g', o, cap, cur, rfl, hb, hh, _⟩⟩ := h
  · cases hg
  · cases hg; exact ⟨hb, _, hh⟩
theorem OwnO.base {w : World} {base b el size : Nat} {v : Value} {ids : List (Array Value)} (h : OwnO w base el size v ids) (hb : b ≤ base) : OwnO w b el size v ids := by
  obtain ⟨hs, h | ⟨g, o, cap, cur, rfl, hbg, r⟩⟩ := h
  · exact ⟨hs, .inl h⟩
  · exact ⟨hs, .inr ⟨g, o, cap, cur, rfl, Nat.le_trans hb hbg, r⟩⟩
theorem OwnO.rd {w : World} {base el size : Nat} {v : Value} {ids : List (Array Value)} (h : OwnO w base el size v ids) : rdS w size v = some (ids.flatMap Array.toList).toArray := by
  obtain ⟨hs, ⟨rfl, rfl⟩ | ⟨g, o, cap, cur, rfl, hb, hg, hn, hcm, hle, htake⟩⟩ := h
  · rfl
  · have hle2 : ids.length * size ≤ cap * size := Nat.mul_le_mul_right _ hn
    simp only [rdS]
    split
    · rename_i h0
      have : ids = [] := List.eq_nil_of_length_eq_zero h0
      subst this; rfl
    · rw [rdN_heap, hg, rdO_some _ _ _ _ _ (by omega)]
      congr 1
      apply Array.ext'
      rw [← htake]
      simp only [Array.toList_extract, List.extract_eq_take_drop]
      congr 1; omega
/-- An element. -/
theorem OwnO.at {w : World} {base el size : Nat} {v : Value} {ids : List (Array Value)} (h : OwnO w base el size v ids) {j : Nat} (hj : j < ids.length) :
    ∃ g o cap cur, v = .slice (some ⟨g, o, none⟩) ids.length cap ∧ w.heap[g]? = some (.cells cur el (0, 0)) ∧ rdO (w.heap[g]?) (o + j * size) size = some ids[j] := by
  obtain ⟨q, c, e, _⟩ := h.is
  obtain ⟨b, o, hq, h1⟩ := rdS_at (size := size) (xs := ids) (q := q) (n := ids.length) (c := c) (by rw [← e]; exact h.rd) rfl h.sz hj
  subst hq
  obtain ⟨hs, ⟨rfl, rfl⟩ | ⟨g', o', cap, cur, e', hb, hg, _⟩⟩ := h
  · cases hj
  · rw [e] at e'
    injection e' with e1 e2 e3
    injection e1 with e1
    injection e1 with e4 e5
    subst e4 e5 e
    exact ⟨_, _, _, _, rfl, hg, h1⟩
/-- From an element on. -/
theorem OwnO.drop {w : World} {base el size : Nat} {v : Value} {ids : List (Array Value)} (h : OwnO w base el size v ids) {l : Nat} (hl : l ≤ ids.length) :
    ∃ q c, v = .slice q ids.length c ∧ ids.length ≤ c ∧ OwnO w base el size (.slice (advA size q c l) (ids.length - l) (c - l)) (ids.drop l) := by
  obtain ⟨hs, ⟨rfl, rfl⟩ | ⟨g, o, cap, cur, rfl, hb, hg, hn, hcm, hle, htake⟩⟩ := h
  · have : l = 0 := by simpa using hl
    subst this
    exact ⟨none, 0, rfl, Nat.le_refl _, OwnO.nil w base el size⟩
  · refine ⟨_, _, rfl, hn, fun k hk => hs k (List.mem_of_mem_drop hk), .inr ?_⟩
    have hd : (ids.drop l).length = ids.length - l := List.length_drop
    unfold advA
    by_cases hc : cap = l
    · rw [if_pos hc]
      have h0 : ids.drop l = [] := List.drop_eq_nil_of_le (by omega)
      refine ⟨g, o, cap - l, cur, by rw [hd], hb, hg, by omega, by omega, ?_, ?_⟩
      · have : (cap - l) * size = 0 := by rw [hc, Nat.sub_self, Nat.zero_mul]
        rw [this]; have := Nat.zero_le (cap * size); omega
      · rw [h0]; simp
    · rw [if_neg hc]
      have e1 : cap * size = l * size + (cap - l) * size := by rw [← Nat.add_mul]; congr 1; omega
      have e2 : ids.length * size = l * size + (ids.length - l) * size := by rw [← Nat.add_mul]; congr 1; omega
      refine ⟨g, o + l * size, cap - l, cur, by rw [hd]; simp [Addr.add], hb, hg, by omega, by omega, by omega, ?_⟩
      rw [hd, ← flat_drop l hs, ← htake, List.drop_take, List.drop_drop]
      congr 1; omega
/-- 'append' of a literal. -/
theorem appO {w : World} {base el size bytes : Nat} {z : List Value} {v : Value} {ids : List (Array Value)} {cs : List Value} {K : Value → World → Prop} (h : OwnO w base el size v ids) (hc : cs.length = size) (hf : flat cs.toArray)
    (hlen : ids.length + 1 ≤ 1000000000) (hb : (ids.length + 1) * bytes ≤ 140737488355328) (hz : z.length = size) (hbase : base ≤ w.heap.size) (hs : 0 < size)
    (hk : ∀ v' w', OwnO w' base el size v' (ids ++ [cs.toArray]) → Keep (Go.Proofs.blk v) w w' → (∀ g, Go.Proofs.blk v' g → Go.Proofs.blk v g ∨ w.heap.size ≤ g) → K v' w') :
    appV el size bytes z v (.slice (some ⟨w.heap.size, 0, none⟩) 1 1) (w.alloc (.cells cs.toArray el)) K := by
  have hml : maxLen = 9223372036854775807 := rfl
  have hE : Ext w (w.alloc (.cells cs.toArray el)) := (Keep.refl _ w).alloc _
  have hr : rdS (w.alloc (.cells cs.toArray el)) size (.slice (some ⟨w.heap.size, 0, none⟩) 1 1) = some cs.toArray := by
    simp only [rdS, rdN_heap, heap_new _ _ _ rfl, Nat.one_mul]
    rw [if_neg (by omega), rdO_some _ _ _ _ _ (by simp [hc])]
    simp only [Nat.zero_add]
    rw [ext_all _ _ (by simp [hc])]
  have hs2 : ∀ k ∈ ids ++ [cs.toArray], k.size = size := fun k hk => by
    rcases List.mem_append.1 hk with hk | hk
    · exact h.sz k hk
    · obtain rfl : k = cs.toArray := by simpa using hk
      simp [hc]
  have hfl : (ids ++ [cs.toArray]).flatMap Array.toList = ids.flatMap Array.toList ++ cs := by simp
  have hfll : (ids.flatMap Array.toList).length = ids.length * size := flat_len h.sz
  have h2 := h.ext hE
  have hro := h2.rd
  have hl2 : (ids ++ [cs.toArray]).length = ids.length + 1 := by simp
  have grow : ∀ c', ids.length + 1 ≤ c' → c' ≤ maxLen → K (.slice (some ⟨(w.alloc (.cells cs.toArray el)).heap.size, 0, none⟩) (ids.length + 1) c')
      ((w.alloc (.cells cs.toArray el)).drew.alloc (.cells (ids.flatMap Array.toList ++ cs ++ zrep (c' - (ids.length + 1)) z).toArray el)) := by
    intro c' h1 h2
    refine hk _ _ ⟨hs2, .inr ⟨_, 0, c', _, by rw [hl2]; rfl, ?_, heap_new _ _ _ rfl, by rw [hl2]; exact h1, h2, ?_, ?_⟩⟩ ?_ ?_
    · show base ≤ (w.alloc _).heap.size
      rw [size_alloc]; omega
    · simp only [List.size_toArray, List.length_append, hfll, hc, length_zrep, hz]
      rw [Nat.zero_add, show ids.length * size + size + (c' - (ids.length + 1)) * size = (ids.length + 1 + (c' - (ids.length + 1))) * size by rw [Nat.add_mul, Nat.add_mul, Nat.one_mul]]
      exact Nat.mul_le_mul_right _ (by omega)
    · rw [hl2, List.drop_zero, hfl]
      rw [List.take_left']
      rw [List.length_append, hfll, hc, Nat.add_mul, Nat.one_mul]
    · exact ((hE.mono fun _ h => h.elim).ext (Keep.refl _ _).drew).alloc _
    · intro g hg; cases hg; exact .inr (by show w.heap.size ≤ (w.alloc _).heap.size; rw [size_alloc]; omega)
  unfold appV
  obtain ⟨q, c, rfl, hcap⟩ := h.is
  simp only [hro, hr, getV_some]
  have h1s : 1 * size ≠ 0 := by omega
  obtain ⟨_, ⟨e, rfl⟩ | ⟨g, o, cap, cur, e, hbg, hg, hn, hcm, hle, htake⟩⟩ := h2
  · injection e with e1 e2 e3
    subst e1 e3
    exact ⟨hf, by simp; omega, hb, hz, fun h => absurd h (by simp), fun h => absurd h (by simp), fun _ => grow⟩
  · injection e with e1 e2 e3
    subst e1 e3
    refine ⟨hf, by omega, hb, hz, fun hc' => ⟨fun h0 => absurd h0 h1s, fun _ b o' hp => ?_⟩, fun _ _ => ⟨_, _, rfl⟩, fun _ => grow⟩
    injection hp with hp
    injection hp with e4 e5
    subst e4 e5
    have e6 : (ids.length + 1) * size ≤ c * size := Nat.mul_le_mul_right _ hc'
    rw [Nat.add_mul, Nat.one_mul] at e6
    have hgw : g ≠ w.heap.size := fun e => by subst e; rw [heap_new _ _ _ rfl] at hg; exact absurd (hbg) (by
      obtain ⟨_, ⟨e, _⟩ | ⟨g', o', cap', cur', e', _, hg', _⟩⟩ := h
      · cases e
      · injection e' with e1; injection e1 with e1; injection e1 with e1 _; subst e1
        have := (Array.getElem?_eq_some_iff.1 hg').1; omega)
    refine ⟨okN_of hg (by omega), hk _ _ ⟨hs2, .inr ⟨g, o, c, _, by rw [hl2], hbg, heap_putN_eq hg, by rw [hl2]; exact hc', hcm, ?_, ?_⟩⟩ ?_ fun g' hg' => .inl hg'⟩
    · simp only [spliceA, List.size_toArray, List.length_append, List.length_take, List.length_drop, Array.length_toList, hc]
      omega
    · rw [hl2, hfl, ← htake]
      simp only [spliceA]
      have e7 : (ids.length + 1) * size = ids.length * size + size := by rw [Nat.add_mul, Nat.one_mul]
      rw [e7]
      have hlen1 : (cur.toList.take (o + ids.length * size)).length = o + ids.length * size := by rw [List.length_take, Array.length_toList (xs := cur)]; omega
      rw [List.append_assoc, List.drop_append_of_le_length (by rw [hlen1]; omega), List.drop_take, Nat.add_sub_cancel_left]
      have hlen2 : ((cur.toList.drop o).take (ids.length * size)).length = ids.length * size := by rw [htake, hfll]
      rw [List.take_append, hlen2, List.take_of_length_le (by rw [hlen2]; omega), Nat.add_sub_cancel_left, List.take_left' hc]
    · exact (hE.mono fun _ h => h.elim).putN _ fun _ => rfl
end Go.Proofs
