/- Noughts that are appended; slices.Clone; a checksum's run. -/
import Derived.Test.YtajkhimlpnebdaaT5
import Derived.Lib.AppendZerosOnto
set_option linter.unusedSimpArgs false
set_option linter.unusedVariables false
set_option linter.constructorNameAsVariable false
namespace Go.Proofs
open Go.Vc
set_option maxRecDepth 10000

theorem bix_app {P : Program} {ts : List TypeId} {ty : TypeId} {cs : List Bool} {vs : List Value} {w : World} {K : Value → World → Prop} (h : ∃ v w', (Builtin.append_ ts.toArray ty vs.toArray).run P w = .ok v w' ∧ K v w') : bixV P .append ts ty cs vs w K := by
  obtain ⟨v, w', h, hk⟩ := h
  refine ⟨v, w', ?_, hk⟩
  show (do pure (Next.value (← Builtin.append_ ts.toArray ty vs.toArray)) : Sem Next).run P w = _
  rw [Sem.run_bind, h]
  rfl
theorem zrep_u8 (k : Nat) : zrep k [Value.int .u8 0] = bv (List.replicate k 0) := by
  simp [zrep, bv]
theorem zeroCells_u8 (k : Nat) : Builtin.zeroCells #[Value.int .u8 0] k = (bv (List.replicate k 0)).toArray := by
  apply Array.ext'
  rw [zeroCells_eq]
  simp [zrep_u8]
/-- 'append(.., make([]byte, k)...)'. -/
theorem appZ {P : Program} {t tn : TypeId} {ty : TypeId} {i : TypeInfo} (ht : P.underlying t = some (.slice 5)) (htn : P.underlying tn = some (.int .i64)) (hi : P.info? 5 = some i) (hs : i.size = 1) (hb : i.bytes = 1) (hz : i.zero = some (.int .u8 0))
    {w : World} {v : Value} {bs : List Int} {k : Nat} {cs : List Bool} {K : Value → World → Prop} (h : Own1 w v bs) (hlen : bs.length + k ≤ 1000000000)
    (hk : ∀ v' w', Own1 w' v' (bs ++ List.replicate k 0) → Keep (blk v) w w' → (∀ g, blk v' g → blk v g ∨ w.heap.size ≤ g) → K v' w') : bixV P .append [t, tn] ty cs [v, .int .i64 k] w K := by
  refine bix_app ?_
  have hml : maxLen = 9223372036854775807 := rfl
  have hw : IntKind.i64.wrap (k : Int) = k := by rw [IntKind.wrap_i64]; omega
  have hxl : (bv (bs ++ List.replicate k 0)).length = (bs ++ List.replicate k 0).length * 1 := by rw [bv_len, Nat.mul_one]
  by_cases hk0 : k = 0
  · subst hk0
    rw [List.replicate_zero, List.append_nil] at hk
    refine ⟨v, w, ?_, hk v w h (Keep.refl _ w) fun g hg => .inl hg⟩
    obtain ⟨n, c, q, rfl, hnc⟩ : ∃ n c q, v = .slice q n c ∧ n ≤ c := by
      rcases h.2 with ⟨rfl, h0⟩ | ⟨g, cap, cur, rfl, _, _, hn, _⟩
      · exact ⟨0, 0, none, rfl, Nat.le_refl _⟩
      · exact ⟨_, _, _, rfl, hn⟩
    have h00 : IntKind.i64.wrap 0 = 0 := by decide
    cases q <;> simp [Builtin.append_, run_underlying ht, run_underlying htn, sizeOf, typeInfo, hi, hs, hb, asInt, asIntOf, h00, hnc, storeCells]
  · have hro := rdS_own h
    by_cases hc : ∃ g cap cur, v = .slice (some ⟨g, 0, none⟩) bs.length cap ∧ w.heap[g]? = some (.cells cur 5 (0, 0)) ∧ bs.length + k ≤ cap ∧ cap ≤ maxLen ∧ cur.size = cap * 1 ∧ cur.toList.take (bs.length * 1) = bv bs
    · obtain ⟨g, cap, cur, rfl, hg, hnc, hcm, hcs, htk⟩ := hc
      have hfl : flat (bv (List.replicate k 0)).toArray := bv_flat _
      have hokN : okN w g (0 + bs.length) (bv (List.replicate k 0)).toArray.size := okN_of hg (by simp [bv]; omega)
      have hst := storeCells_run (P := P) (b := g) (o := 0 + bs.length) hfl hokN
      have k1 : Keep (fun j => j = g) w (w.putN g (0 + bs.length) (bv (List.replicate k 0)).toArray) := (Keep.refl _ w).putN _ fun _ => rfl
      refine ⟨_, w.putN g (0 + bs.length) (bv (List.replicate k 0)).toArray, ?_, hk (.slice (some ⟨g, 0, none⟩) (bs.length + k) cap) _ ?_ (k1.mono fun j hj => by subst hj; rfl) fun j hj => .inl hj⟩
      · have hlt : ¬ (281474976710656 < (k : Int)) := by omega
        have hst' : (storeCells ⟨g, bs.length, none⟩ (bv (List.replicate k 0))).run P w = .ok () (w.putN g bs.length (bv (List.replicate k 0)).toArray) := by simpa using hst
        simp [Builtin.append_, run_underlying ht, run_underlying htn, sizeOf, typeInfo, hi, hs, hb, hz, asInt, asIntOf, hw, hnc, hk0, zeroValue, zeroCells_u8, addr_add, hlt, Value.cells, hst']
        intro hh; omega
      · refine ⟨by rw [bv_len, Nat.mul_one], .inr ⟨g, cap, _, by rw [List.length_append, List.length_replicate], Nat.zero_le _, heap_putN_eq hg, by rw [List.length_append, List.length_replicate]; exact hnc, hcm, ?_, ?_⟩⟩
        · simp only [spliceA, List.size_toArray, List.length_append, List.length_take, List.length_drop, Array.length_toList, bv_len, List.length_replicate]
          omega
        · simp only [spliceA, Nat.zero_add]
          rw [← Nat.mul_one bs.length, htk, ← hxl, bv_app]
          exact List.take_left
    · have hgrow : ∃ p c, v = .slice p bs.length c ∧ c < bs.length + k := by
        rcases h.2 with ⟨rfl, h0⟩ | ⟨g, cap, cur, rfl, _, hg, hn, hcm, hcs, htk⟩
        · exact ⟨none, 0, by rw [h0], by omega⟩
        · refine ⟨_, cap, rfl, ?_⟩
          rcases Nat.lt_or_ge cap (bs.length + k) with h1 | h1
          · exact h1
          · exact absurd ⟨g, cap, cur, rfl, hg, h1, hcm, hcs, htk⟩ hc
      obtain ⟨p, c, rfl, hcl⟩ := hgrow
      have hfirst : (Builtin.firstCells i.size bs.length (.slice p bs.length c)).run P w.drew = .ok (bv bs).toArray w.drew := by
        rw [hs]
        exact (rdS_run (P := P) (w := w.drew) (rdS_own (w := w.drew) (h.ext ((Keep.refl _ w).drew)))).1
      have hfit := growslice_fits (need := bs.length + k) (old := c) (bytes := i.bytes) hcl (by rw [hb]; omega)
      have hrun := Lib.run_append_grow_zeros (P := P) w t tn ty 5 i (.int .u8 0) .i64 .i64 ht htn hi hz p bs.length c (bv bs) hfirst k (by omega) (by rw [hs]; decide) hcl (by omega) (by rw [hb]; omega) (by omega)
      have hnl : (bs ++ List.replicate k 0).length = bs.length + k := by rw [List.length_append, List.length_replicate]
      refine ⟨_, _, hrun, hk _ _ ⟨by rw [bv_len, Nat.mul_one], .inr ⟨w.heap.size, grownCap w (bs.length + k) c 5, _, by rw [hnl], Nat.zero_le _, heap_alloc_new w.drew _, by rw [hnl]; exact grownCap_ge w _ _ _, grownCap_le_maxLen w _ _ _ (by omega), ?_, ?_⟩⟩ (((Keep.refl _ w).drew).alloc _) fun g hg => ?_⟩
      · have := grownCap_ge w (bs.length + k) c 5
        simp only [Value.cells, zeroCells_u8, Array.size_append, List.size_toArray, bv_len, List.length_replicate]
        omega
      · have e : ((bv bs).toArray ++ Builtin.zeroCells (Value.int .u8 0).cells k ++ Builtin.zeroCells (Value.int .u8 0).cells (grownCap w (bs.length + k) c 5 - (bs.length + k))).toList = bv (bs ++ List.replicate k 0) ++ bv (List.replicate (grownCap w (bs.length + k) c 5 - (bs.length + k)) 0) := by
          simp only [Value.cells, zeroCells_u8, Array.toList_append, bv_app]
        rw [e, ← hxl]
        exact List.take_left
      · cases hg; exact .inr (Nat.le_refl _)
end Go.Proofs
