/- Bytes that are written over. -/
import Derived.Test.YthjgmajfkfhdaaaW3
set_option linter.unusedSimpArgs false
set_option linter.unusedVariables false
set_option linter.constructorNameAsVariable false
namespace Go.Proofs
open Go.Vc
set_option maxRecDepth 10000

theorem bv_set (bs : List Int) (i : Nat) (x : Int) : bv (bs.set i x) = (bv bs).set i (.int .u8 x) := by
  simp [bv, List.map_set]
theorem Own1.set {w : World} {v : Value} {bs : List Int} (h : Own1 w v bs) {i : Nat} (hi : i < bs.length) (x : Int) :
    ∃ g c, v = .slice (some ⟨g, 0, none⟩) bs.length c ∧ wr1 w g i ∧ Own1 (w.setCell ⟨g, i, none⟩ (.int .u8 x)) v (bs.set i x) := by
  obtain ⟨hl, ⟨rfl, h0⟩ | ⟨g, cap, cur, rfl, hb, hh, hn, hm, hs, ht⟩⟩ := h
  · omega
  · refine ⟨g, cap, rfl, wr1_of hh (by omega), ⟨by rw [bv_len, Nat.mul_one], .inr ⟨g, cap, cur.setIfInBounds i (.int .u8 x), ?_, hb, heap_setCell_eq hh, ?_, hm, by rw [Array.size_setIfInBounds]; exact hs, ?_⟩⟩⟩
    · rw [List.length_set]
    · rw [List.length_set]; exact hn
    · rw [List.length_set, Array.toList_setIfInBounds, List.take_set, ht, bv_set]
theorem Own1.out {w : World} {v : Value} {bs : List Int} (h : Own1 w v bs) {g i : Nat} (hi : bs.length ≤ i) (x : Value) : Own1 (w.setCell ⟨g, i, none⟩ x) v bs := by
  by_cases hg : blk v g
  · obtain ⟨hl, ⟨rfl, h0⟩ | ⟨g', cap, cur, rfl, hb, hh, hn, hm, hs, ht⟩⟩ := h
    · cases hg
    · obtain rfl : g' = g := Option.some.inj hg
      refine ⟨hl, .inr ⟨g', cap, cur.setIfInBounds i x, rfl, hb, heap_setCell_eq hh, hn, hm, by rw [Array.size_setIfInBounds]; exact hs, ?_⟩⟩
      rw [Array.toList_setIfInBounds, List.take_set, ht, List.set_eq_of_length_le (by rw [bv_len]; exact hi)]
  · exact h.keep ((Keep.refl _ w).setCell (S := fun k => k = g) _ fun _ => rfl) fun k hk (e : k = g) => hg (e ▸ hk)
theorem appV_and {el size bytes : Nat} {z : List Value} {s x : Value} {w : World} {K L M : Value → World → Prop} (h : appV el size bytes z s x w K) (k : appV el size bytes z s x w L) (f : ∀ v w', K v w' → L v w' → M v w') : appV el size bytes z s x w M := by
  unfold appV at h k ⊢
  cases s <;> try exact h.elim
  cases x <;> try exact h.elim
  rename_i p n c q m d
  simp only at h k ⊢
  cases h1 : rdS w size (.slice p n c) with
  | none => rw [h1] at h; exact h.elim
  | some olds =>
    cases h2 : rdS w size (.slice q m d) with
    | none => rw [h1, h2] at h; exact h.elim
    | some news =>
      rw [h1, h2] at h k
      obtain ⟨a1, a2, a3, a4, a5, a6, a7⟩ := h
      obtain ⟨_, _, _, _, b5, _, b7⟩ := k
      exact ⟨a1, a2, a3, a4, fun hc => ⟨fun h0 => f _ _ ((a5 hc).1 h0) ((b5 hc).1 h0), fun h0 b o hp => ⟨((a5 hc).2 h0 b o hp).1, f _ _ ((a5 hc).2 h0 b o hp).2 ((b5 hc).2 h0 b o hp).2⟩⟩, a6, fun hc c' i1 i2 => f _ _ (a7 hc c' i1 i2) (b7 hc c' i1 i2)⟩
theorem appV_head {w : World} {v x : Value} {bs news : List Int} (h : Own1 w v bs) (hx : Rd w x news) (hlen : bs.length + news.length ≤ 1000000000) : appV 5 1 1 [.int .u8 0] v x w fun _ w' => Own1 w' v bs := by
  obtain ⟨⟨q, d, rfl, hd⟩, hm, hr⟩ := id hx
  have hml : maxLen = 9223372036854775807 := rfl
  have hr2 := h.rd.rd
  have hnl : (bv news).toArray.size = news.length := by simp [bv_len]
  obtain ⟨hl, ⟨rfl, h0⟩ | ⟨g, cap, cur, rfl, hb, hh, hn, hcm, hs, ht⟩⟩ := id h
  · unfold appV
    simp only [hr, hr2]
    exact ⟨bv_flat news, by omega, by omega, rfl, fun hle => ⟨fun h1 => h, fun h1 => absurd (by omega) h1⟩, fun hle h1 => absurd (by omega) h1, fun hlt c' i1 i2 => h.ext (((Keep.refl _ w).drew).alloc _)⟩
  · unfold appV
    simp only [hr, hr2]
    refine ⟨bv_flat news, by omega, by omega, rfl, fun hle => ⟨fun h1 => h, fun h1 b o hp => ?_⟩, fun hle h1 => ⟨_, _, rfl⟩, fun hlt c' i1 i2 => h.ext (((Keep.refl _ w).drew).alloc _)⟩
    cases hp
    refine ⟨?_, hl, .inr ⟨g, cap, spliceA cur (0 + bs.length * 1) (bv news).toArray, rfl, hb, heap_putN_eq hh, hn, hcm, ?_, ?_⟩⟩
    · exact okN_of hh (by omega)
    · simp only [spliceA, List.size_toArray, List.length_append, List.length_take, List.length_drop, Array.length_toList, bv_len]; omega
    · simp only [spliceA, Nat.zero_add]
      have hlt : (cur.toList.take (bs.length * 1)).length = bs.length * 1 := by rw [List.length_take, Array.length_toList (xs := cur)]; omega
      rw [List.append_assoc, List.take_append_of_le_length (by omega), List.take_take, Nat.min_self, ht]
/-- Onto a slice of one's own, and that still reads as it did. -/
theorem appLH {w : World} {v : Value} {bs news : List Int} {K : Value → World → Prop} (h : Own1 w v bs) (hlen : bs.length + news.length ≤ 1000000000)
    (hk : ∀ v' w', Own1 w' v' (bs ++ news) → Own1 w' v bs → Keep (blk v) w w' → (∀ g, blk v' g → blk v g ∨ w.heap.size ≤ g) → K v' w') :
    appV 5 1 1 [.int .u8 0] v (.slice (some ⟨w.heap.size, 0, none⟩) news.length news.length) (w.alloc (.cells (bv news).toArray 5)) K := by
  have hE : Ext w (w.alloc (.cells (bv news).toArray 5)) := (Keep.refl _ w).alloc _
  have hml : maxLen = 9223372036854775807 := rfl
  exact appV_and (appL (K := fun v' w' => Own1 w' v' (bs ++ news) ∧ Keep (blk v) w w' ∧ (∀ g, blk v' g → blk v g ∨ w.heap.size ≤ g)) h hlen fun v' w' h1 h2 h3 => ⟨h1, h2, h3⟩)
    (appV_head (h.ext hE) (own_lit1 (w := w) (bs := news) (by omega)).rd hlen) fun v' w' h1 h2 => hk v' w' h1.1 h2 h1.2.1 h1.2.2
end Go.Proofs
