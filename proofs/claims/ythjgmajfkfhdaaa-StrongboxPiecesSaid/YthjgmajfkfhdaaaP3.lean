/- What is written is read again, plainly; the arguments; whose a block is. -/
import Derived.Test.YthjgmajfkfhdaaaP2
import Derived.Test.YthjgmajfkfhdaaaHA
import Derived.Test.YthjgmajfkfhdaaaW9
import Derived.Test.YthjgmajfkfhdaaaDR0
set_option linter.unusedSimpArgs false
set_option linter.unusedVariables false
set_option linter.constructorNameAsVariable false
namespace Go.Proofs
open Go.Vc
set_option maxRecDepth 10000

theorem num_enc (k : Nat) (x : Int) (rest : List Int) (h0 : 0 ≤ x) (h1 : x < 256 ^ k) : numR k (lowF k x ++ rest) = .ok (x, rest) := by
  have hl := lowF_len k x
  unfold numR
  rw [if_pos (by rw [List.length_append]; omega), List.take_left' hl, List.drop_left' hl, valF_lowF k x h0 h1]
theorem sz_enc (n : Int) (rest : List Int) (h0 : 0 ≤ n) (h1 : n ≤ 400) : szR (sizeF n ++ rest) = .ok (n, rest) := by
  unfold sizeF
  by_cases a1 : n < 253
  · rw [if_pos a1]
    simp only [List.cons_append, List.nil_append, szR, if_pos a1]
  rw [if_neg a1, if_pos (by omega)]
  have hl := lowF_len 2 n
  have ht : ((lowF 2 n ++ rest).take 2) = lowF 2 n := List.take_left' hl
  have hd : ((lowF 2 n ++ rest).drop 2) = rest := List.drop_left' hl
  have hlen : ¬ (lowF 2 n ++ rest).length < 2 := by rw [List.length_append]; omega
  have hw : wideF n = 2 := by unfold wideF; rw [if_neg a1, if_pos (by omega)]
  have hk : szK 253 = 2 := rfl
  have hz : ¬ (33554432 : Int) < n := by omega
  have h253 : ¬ (253 : Int) < 253 := by omega
  simp only [List.cons_append, szR, if_neg h253, hk, if_neg hlen, ht, hd, valF_lowF 2 n h0 (by omega), hw, ne_eq, not_true_eq_false, if_false, if_neg hz]
theorem byt_enc (b rest : List Int) (h : b.length ≤ 400) : bytR 400 (sizeF b.length ++ b ++ rest) = .ok (b, rest) := by
  unfold bytR
  rw [List.append_assoc, sz_enc _ _ (by omega) (by omega)]
  simp only
  rw [if_neg (by omega)]
  unfold rawR
  rw [Int.toNat_natCast, if_pos (by rw [List.length_append]; omega), List.take_left' rfl, List.drop_left' rfl]
theorem sizeF_b {n : Int} (h : 0 ≤ n ∧ n ≤ 400) : byt (sizeF n) ∧ (sizeF n).length ≤ 3 := by
  unfold sizeF
  split
  · exact ⟨fun x hx => by simp at hx; omega, by simp⟩
  · rw [if_pos (by omega)]
    refine ⟨fun x hx => ?_, by simp [lowF_len]⟩
    rcases List.mem_cons.1 hx with rfl | hx
    · omega
    · exact lowF_byt 2 n x hx

/-- The parts and the numbers. -/
structure PrtAt (w : World) (v : Value) (ps : List (List Int)) : Prop where
  len : lenR v = some (.int .i64 (ps.length : Nat))
  mx : ps.length ≤ maxLen
  at' : ∀ i (hi : i < ps.length), ∃ b o c x, v = .slice (some ⟨b, o, none⟩) ps.length c ∧ cellO w.heap[b]? (o + i) = some x ∧ Rd w x ps[i]
  byt : ∀ p ∈ ps, byt p
structure NumAt (w : World) (v : Value) (ns : List Int) : Prop where
  len : lenR v = some (.int .i64 (ns.length : Nat))
  mx : ns.length ≤ maxLen
  at' : ∀ i (hi : i < ns.length), ∃ b o c, v = .slice (some ⟨b, o, none⟩) ns.length c ∧ cellO w.heap[b]? (o + i) = some (.int .u64 ns[i])
  rng : ∀ n ∈ ns, 0 ≤ n ∧ n < 18446744073709551616
theorem cell_ext {w w' : World} {b i : Nat} {x : Value} (h : cellO w.heap[b]? i = some x) (k : Ext w w') : cellO w'.heap[b]? i = some x := by
  cases hb : w.heap[b]? with
  | none => rw [hb] at h; simp [cellO] at h
  | some o => rw [k.at hb (fun h => h), ← hb]; exact h
theorem PrtAt.ext {w w' : World} {v : Value} {ps : List (List Int)} (h : PrtAt w v ps) (k : Ext w w') : PrtAt w' v ps :=
  ⟨h.len, h.mx, fun i hi => by obtain ⟨b, o, c, x, h1, h2, h3⟩ := h.at' i hi; exact ⟨b, o, c, x, h1, cell_ext h2 k, h3.ext k⟩, h.byt⟩
theorem NumAt.ext {w w' : World} {v : Value} {ns : List Int} (h : NumAt w v ns) (k : Ext w w') : NumAt w' v ns :=
  ⟨h.len, h.mx, fun i hi => by obtain ⟨b, o, c, h1, h2⟩ := h.at' i hi; exact ⟨b, o, c, h1, cell_ext h2 k⟩, h.rng⟩
def tyRow : Tys := .cons (.sl (.cons (.int .u8) .nil)) .nil
theorem prt_of {w : World} {v : Value} (h : Lies w (.sl tyRow) v) : ∃ ps, PrtAt w v ps := by
  simp only [Lies] at h
  obtain ⟨q, n, c, xs, rfl, h2, h3, h4, h5, h6, h7⟩ := h
  have hx : ∀ x ∈ xs, ∃ b : List Int, (∃ y, x = #[y] ∧ Rd w y b) ∧ Go.Proofs.byt b := by
    intro x hx
    have h := h7 x hx
    cases hl : x.toList with
    | nil => rw [hl] at h; simp [LiesAll, tyRow] at h
    | cons y l =>
      rw [hl] at h
      simp only [LiesAll, tyRow] at h
      obtain ⟨h8, rfl⟩ := h
      obtain ⟨bs, hr, hb⟩ := bytes_of h8
      exact ⟨bs, ⟨y, Array.ext' hl, hr⟩, hb⟩
  obtain ⟨ps, hl, hps⟩ := list_choose xs hx
  have hn : ps.length = n := by omega
  refine ⟨ps, by rw [hn]; rfl, by omega, fun i hi => ?_, fun p hp => ?_⟩
  · have hs : ∀ x ∈ xs, x.size = 1 := fun x hx => h6 x hx
    obtain ⟨b, o, rfl, hc⟩ := rdS_at (size := 1) h5 h4 hs (i := i) (by omega)
    obtain ⟨⟨y, hy, hr⟩, _⟩ := hps i (by omega) hi
    rw [hy, Nat.mul_one] at hc
    have := rdO_cell hc (j := 0) (by omega)
    exact ⟨b, o, c, y, by rw [hn], this, hr⟩
  · obtain ⟨i, hi, rfl⟩ := List.getElem_of_mem hp
    exact (hps i (by omega) hi).2
theorem num_of {w : World} {v : Value} (h : Lies w (.sl (.cons (.int .u64) .nil)) v) : ∃ ns, NumAt w v ns := by
  obtain ⟨q, n, c, rfl⟩ := slice_of h
  obtain ⟨hm, ns, hl, hr, hb⟩ := ints_of h
  refine ⟨ns, by rw [hl]; rfl, by omega, fun i hi => ?_, fun n hn => ?_⟩
  · have e : (ns.map (Value.int .u64)).toArray = ((ns.map fun n => #[Value.int .u64 n]).flatMap Array.toList).toArray := by
      rw [flat_ones (k := .u64) (bs := ns) (by simp) (fun i h h' => by simp)]
    rw [e] at hr
    obtain ⟨b, o, rfl, hc⟩ := rdS_at (size := 1) hr (by simpa using hl) (by simp) (i := i) (by omega)
    rw [Nat.mul_one] at hc
    have := rdO_cell hc (j := 0) (by omega)
    exact ⟨b, o, c, by rw [hl], by simpa using this⟩
  · have := hb n hn
    have e1 : IntKind.u64.min = 0 := by decide
    have e2 : IntKind.u64.max = 18446744073709551615 := by decide
    omega

/-- One piece, and the first of them. -/
def cutP (ps : List (List Int)) (i : Nat) : List Int := (ps.getD i []).take 400
def numP (ns : List Int) (i : Nat) : Int := if ns.length = 0 then (i : Nat) else ns.getD (i % ns.length) 0
def pieceF (ps : List (List Int)) (ns : List Int) (i : Nat) : List Int := sizeF (cutP ps i).length ++ cutP ps i ++ lowF 8 (numP ns i)
def encP (ps : List (List Int)) (ns : List Int) (a k : Nat) : List Int := (List.range' a k).flatMap (pieceF ps ns)
theorem encP_succ (ps : List (List Int)) (ns : List Int) (k : Nat) : encP ps ns 0 (k + 1) = encP ps ns 0 k ++ pieceF ps ns k := by
  unfold encP
  rw [List.range'_concat]
  simp
theorem encP_cons (ps : List (List Int)) (ns : List Int) (a k : Nat) : encP ps ns a (k + 1) = pieceF ps ns a ++ encP ps ns (a + 1) k := by
  unfold encP
  rw [List.range'_succ, List.flatMap_cons]
theorem cutP_len (ps : List (List Int)) (i : Nat) : (cutP ps i).length ≤ 400 := by unfold cutP; rw [List.length_take]; omega
theorem cutP_byt {ps : List (List Int)} (h : ∀ p ∈ ps, byt p) (i : Nat) : byt (cutP ps i) := by
  refine byt_take ?_ _
  rw [List.getD_eq_getElem?_getD]
  cases hi : ps[i]? with
  | none => exact byt_nil
  | some p => exact h p (List.mem_of_getElem? hi)
theorem numP_b {ns : List Int} (h : ∀ n ∈ ns, 0 ≤ n ∧ n < 18446744073709551616) {i : Nat} (hi : i < 12) : 0 ≤ numP ns i ∧ numP ns i < 18446744073709551616 := by
  unfold numP
  split
  · omega
  · rename_i h0
    have hm := Nat.mod_lt i (Nat.pos_of_ne_zero h0)
    rw [List.getD_eq_getElem?_getD, List.getElem?_eq_getElem hm]
    exact h _ (List.getElem_mem _)
theorem pieceF_b {ps : List (List Int)} {ns : List Int} (h : ∀ p ∈ ps, byt p) (i : Nat) : byt (pieceF ps ns i) ∧ (pieceF ps ns i).length ≤ 411 := by
  have h1 := cutP_len ps i
  have h2 := sizeF_b (n := (cutP ps i).length) (by omega)
  refine ⟨byt_app (byt_app h2.1 (cutP_byt h i)) (lowF_byt _ _), ?_⟩
  unfold pieceF
  rw [List.length_append, List.length_append, lowF_len]
  omega
theorem encP_b {ps : List (List Int)} {ns : List Int} (h : ∀ p ∈ ps, byt p) (a k : Nat) : byt (encP ps ns a k) ∧ (encP ps ns a k).length ≤ 411 * k := by
  induction k generalizing a with
  | zero => exact ⟨byt_nil, Nat.le_refl _⟩
  | succ k ih =>
    rw [encP_cons]
    have h1 := pieceF_b (ns := ns) h a
    have h2 := ih (a + 1)
    exact ⟨byt_app h1.1 h2.1, by rw [List.length_append]; omega⟩
/-- What is read of it. -/
theorem piece_bytR (ps : List (List Int)) (ns : List Int) (i : Nat) (rest : List Int) : bytR 400 (pieceF ps ns i ++ rest) = .ok (cutP ps i, lowF 8 (numP ns i) ++ rest) := by
  unfold pieceF
  rw [List.append_assoc, byt_enc _ _ (cutP_len ps i)]

/-- Whose a block is. -/
structure Mine (own : Nat → Nat) (w : World) (k : Nat) (F : Nat → Prop) : Prop where
  is : ∀ g, F g → own g = k
  lt : ∀ g, F g → g < w.heap.size
def bump (own : Nat → Nat) (w : World) (k g : Nat) : Nat := if g < w.heap.size then own g else k
theorem Mine.other {own : Nat → Nat} {w w' : World} {j : Nat} {F : Nat → Prop} (h : Mine own w j F) (k : Nat) (hs : w.heap.size ≤ w'.heap.size) : Mine (bump own w k) w' j F :=
  ⟨fun g hg => by unfold bump; rw [if_pos (h.lt g hg)]; exact h.is g hg, fun g hg => Nat.lt_of_lt_of_le (h.lt g hg) hs⟩
theorem Mine.step {own : Nat → Nat} {w w' : World} {k : Nat} {F F' : Nat → Prop} (h : Mine own w k F) (hF : ∀ g, F' g → F g ∨ w.heap.size ≤ g) (hl : ∀ g, F' g → g < w'.heap.size) : Mine (bump own w k) w' k F' :=
  ⟨fun g hg => by
    unfold bump
    split
    · rename_i hlt
      rcases hF g hg with h1 | h1
      · exact h.is g h1
      · omega
    · rfl, hl⟩
theorem Mine.not {own : Nat → Nat} {w : World} {j k : Nat} {F G : Nat → Prop} (h : Mine own w j F) (h' : Mine own w k G) (hjk : j ≠ k) {g : Nat} (hg : F g) : ¬ G g := fun hh => hjk ((h.is g hg).symm.trans (h'.is g hh))
end Go.Proofs
