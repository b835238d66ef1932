/- Plain: one byte that is another one changes a descriptor's checksum: the values. -/
import Derived.Test.YtajkhimlpnebdaaTH
set_option linter.unusedSimpArgs false
set_option linter.unusedVariables false
set_option linter.constructorNameAsVariable false
namespace Go.Proofs
open Go.Vc
set_option maxRecDepth 10000

theorem run_ne {a b : BitVec 64} (ha : a.toNat < 2 ^ 40) (hb : b.toNat < 2 ^ 40) (h : a ≠ b) : ∀ (vs : List Int), (∀ v ∈ vs, 0 ≤ v ∧ v < 32) → (vs.foldl (stepB 35 descG) a).toNat < 2 ^ 40 ∧ (vs.foldl (stepB 35 descG) b).toNat < 2 ^ 40 ∧ vs.foldl (stepB 35 descG) a ≠ vs.foldl (stepB 35 descG) b
  | [], _ => ⟨ha, hb, h⟩
  | v :: vs, hv => by
    have hv0 := hv v (by simp)
    refine run_ne (step_lt ha hv0) (step_lt hb hv0) (fun e => ?_) vs fun u hu => hv u (List.mem_cons_of_mem _ hu)
    have hd := step_diff ha hb v v
    rw [e, BitVec.xor_self, BitVec.xor_self] at hd
    exact tB_ne (xor_lt ha hb) (fun e2 => h (BitVec.xor_eq_zero_iff.1 e2)) hd.symm
theorem run_lt {a : BitVec 64} (ha : a.toNat < 2 ^ 40) : ∀ (vs : List Int), (∀ v ∈ vs, 0 ≤ v ∧ v < 32) → (vs.foldl (stepB 35 descG) a).toNat < 2 ^ 40
  | [], _ => ha
  | v :: vs, hv => run_lt (step_lt ha (hv v (by simp))) vs fun u hu => hv u (List.mem_cons_of_mem _ hu)
/-- A difference that waits for its group's value. -/
theorem tB_wait (e1 : Fin 32) (k : Fin 2) : tB (BitVec.ofNat 64 e1.val <<< (5 * k.val)) 0#64 = BitVec.ofNat 64 e1.val <<< (5 * (k.val + 1)) := by
  have hd : ∀ (e1 : Fin 32) (k : Fin 2), tB (BitVec.ofNat 64 e1.val <<< (5 * k.val)) 0#64 = BitVec.ofNat 64 e1.val <<< (5 * (k.val + 1)) := by decide +kernel
  exact hd e1 k
theorem tB_last (e1 e2 : Fin 32) (k : Fin 3) (h : e1.val ≠ 0 ∨ e2.val ≠ 0) : tB (BitVec.ofNat 64 e1.val <<< (5 * k.val)) (BitVec.ofNat 64 e2.val) ≠ 0#64 := by
  have hd : ∀ (e1 e2 : Fin 32) (k : Fin 3), (e1.val ≠ 0 ∨ e2.val ≠ 0) → tB (BitVec.ofNat 64 e1.val <<< (5 * k.val)) (BitVec.ofNat 64 e2.val) ≠ 0#64 := by decide +kernel
  exact hd e1 e2 k h
theorem tB_first (e1 : Fin 32) : tB 0#64 (BitVec.ofNat 64 e1.val) = BitVec.ofNat 64 e1.val := by
  have hd : ∀ (e1 : Fin 32), tB 0#64 (BitVec.ofNat 64 e1.val) = BitVec.ofNat 64 e1.val := by decide +kernel
  exact hd e1
/-- The xor of two small values. -/
theorem b64_xor {v u : Int} (hv : 0 ≤ v ∧ v < 32) (hu : 0 ≤ u ∧ u < 32) : ∃ e : Fin 32, b64 v ^^^ b64 u = BitVec.ofNat 64 e.val ∧ (v ≠ u → e.val ≠ 0) := by
  have hlt : (b64 v ^^^ b64 u).toNat < 32 := xor_lt (n := 5) (b64_lt hv) (b64_lt hu)
  obtain ⟨e, he⟩ := lt32 hlt
  refine ⟨e, he, fun hne hz => hne ?_⟩
  rw [hz] at he
  have h1 : b64 v = b64 u := BitVec.xor_eq_zero_iff.1 he
  have h2 := congrArg BitVec.toNat h1
  rw [b64, b64, BitVec.toNat_ofNat, BitVec.toNat_ofNat] at h2
  omega

def rB (vs : List Int) : BitVec 64 := vs.foldl (stepB 35 descG) 1#64
theorem rB_snoc (vs : List Int) (v : Int) : rB (vs ++ [v]) = stepB 35 descG (rB vs) v := by simp [rB]
/-- How two of them stand to each other. -/
inductive Two : (List Int × List Int) → (List Int × List Int) → Prop
  | done {vs us gs : List Int} (h : rB vs ≠ rB us) : Two (vs, gs) (us, gs)
  | wait {vs us : List Int} (pre post : List Int) (x y : Int) (e : Fin 32) (hx : 0 ≤ x ∧ x ≤ 2) (hy : 0 ≤ y ∧ y ≤ 2) (hd : rB vs ^^^ rB us = BitVec.ofNat 64 e.val <<< (5 * post.length)) (hne : e.val ≠ 0 ∨ x ≠ y) : Two (vs, pre ++ x :: post) (us, pre ++ y :: post)
/-- Values that are small. -/
structure Sm (st : List Int × List Int) : Prop where
  b1 : ∀ v ∈ st.1, 0 ≤ v ∧ v < 32
  b2 : ∀ a ∈ st.2, 0 ≤ a ∧ a ≤ 2
  l2 : st.2.length ≤ 2
theorem Sm.lt {st : List Int × List Int} (h : Sm st) : (rB st.1).toNat < 2 ^ 40 := run_lt (by decide) _ h.b1
theorem Sm.step {st : List Int × List Int} (h : Sm st) {p : Int} (hp : 0 ≤ p ∧ p ≤ 94) : Sm (stepV st p) := by
  obtain ⟨vs, gs⟩ := st
  obtain ⟨h1, h2, h4⟩ := h
  simp only at h1 h2 h4
  have hs : ∀ (l : List Int) (x : Int), (∀ v ∈ l, 0 ≤ v ∧ v < 32) → 0 ≤ x ∧ x < 32 → ∀ v ∈ l ++ [x], 0 ≤ v ∧ v < 32 := fun l x hl hx v hv => by
    rcases List.mem_append.1 hv with hv | hv
    · exact hl v hv
    · rw [List.mem_singleton.1 hv]; exact hx
  match gs, h2, h4 with
  | [], h2, h4 => exact ⟨hs _ _ h1 (by omega), fun a ha => by simp [stepV] at ha; subst ha; omega, by simp [stepV]⟩
  | [a], h2, h4 =>
    have ha := h2 a (by simp)
    exact ⟨hs _ _ h1 (by omega), fun x hx => by simp [stepV] at hx; rcases hx with rfl | rfl <;> omega, by simp [stepV]⟩
  | [a, b], h2, h4 =>
    have ha := h2 a (by simp)
    have hb := h2 b (by simp)
    exact ⟨hs _ _ (hs _ _ h1 (by omega)) (by omega), fun x hx => by simp [stepV] at hx, by simp [stepV]⟩
theorem Sm.fold : ∀ (ps : List Int) {st : List Int × List Int}, Sm st → (∀ p ∈ ps, 0 ≤ p ∧ p ≤ 94) → Sm (ps.foldl stepV st)
  | [], _, h, _ => h
  | p :: ps, _, h, hp => Sm.fold ps (h.step (hp p (by simp))) fun q hq => hp q (List.mem_cons_of_mem _ hq)
theorem snoc_ne {vs us : List Int} (h1 : (rB vs).toNat < 2 ^ 40) (h2 : (rB us).toNat < 2 ^ 40) (h : rB vs ≠ rB us) (v : Int) (hv : 0 ≤ v ∧ v < 32) : rB (vs ++ [v]) ≠ rB (us ++ [v]) := by
  rw [rB_snoc, rB_snoc]
  exact (run_ne h1 h2 h [v] fun u hu => by rw [List.mem_singleton.1 hu]; exact hv).2.2
theorem snoc_lt {vs : List Int} (h1 : (rB vs).toNat < 2 ^ 40) {v : Int} (hv : 0 ≤ v ∧ v < 32) : (rB (vs ++ [v])).toNat < 2 ^ 40 := by
  rw [rB_snoc]; exact step_lt h1 hv
/-- The last value of a group parts them. -/
theorem last_ne {vs us : List Int} (h1 : (rB vs).toNat < 2 ^ 40) (h2 : (rB us).toNat < 2 ^ 40) {e : Fin 32} {k : Nat} (hk : k < 3) (hd : rB vs ^^^ rB us = BitVec.ofNat 64 e.val <<< (5 * k)) {g f : Int} (hg : 0 ≤ g ∧ g < 32) (hf : 0 ≤ f ∧ f < 32) (hne : e.val ≠ 0 ∨ g ≠ f) : rB (vs ++ [g]) ≠ rB (us ++ [f]) := by
  rw [rB_snoc, rB_snoc]
  intro heq
  have h3 := step_diff h1 h2 g f
  obtain ⟨e2, he2, hn2⟩ := b64_xor hg hf
  rw [heq, BitVec.xor_self, hd, he2] at h3
  exact tB_last e e2 ⟨k, hk⟩ (hne.imp id hn2) h3.symm
theorem wait_step {vs us : List Int} (h1 : (rB vs).toNat < 2 ^ 40) (h2 : (rB us).toNat < 2 ^ 40) {e : Fin 32} {k : Nat} (hk : k < 2) (hd : rB vs ^^^ rB us = BitVec.ofNat 64 e.val <<< (5 * k)) (v : Int) : rB (vs ++ [v]) ^^^ rB (us ++ [v]) = BitVec.ofNat 64 e.val <<< (5 * (k + 1)) := by
  rw [rB_snoc, rB_snoc, step_diff h1 h2, hd, BitVec.xor_self]
  exact tB_wait e ⟨k, hk⟩
theorem Two.step {a b : List Int × List Int} (h : Two a b) (ha : Sm a) (hb : Sm b) {q : Int} (hq : 0 ≤ q ∧ q ≤ 94) : Two (stepV a q) (stepV b q) := by
  have l1 := ha.lt
  have l2 := hb.lt
  have hg2 := ha.b2
  have hgl := ha.l2
  have hg2' := hb.b2
  have hq32 : 0 ≤ q % 32 ∧ q % 32 < 32 := by omega
  cases h with
  | @done vs us gs h =>
    simp only at l1 l2 hg2 hgl
    have n1 := snoc_ne l1 l2 h (q % 32) hq32
    match gs, hg2, hgl with
    | [], _, _ => exact .done n1
    | [x], _, _ => exact .done n1
    | [x, y], hg2, _ =>
      have hx := hg2 x (by simp)
      have hy := hg2 y (by simp)
      exact .done (snoc_ne (snoc_lt l1 hq32) (snoc_lt l2 hq32) n1 _ (by omega))
  | @wait vs us pre post x y e hx hy hd hne =>
    simp only at l1 l2 hg2 hgl hg2'
    rw [List.length_append, List.length_cons] at hgl
    have w1 := wait_step l1 l2 (k := post.length) (by omega) hd (q % 32)
    match pre, post, hgl, hd, w1, hg2, hg2' with
    | [], [], _, hd, w1, _, _ => exact .wait [] [q / 32] x y e hx hy w1 hne
    | [], [z], _, hd, w1, hg2, _ =>
      have hz := hg2 z (by simp)
      refine .done (last_ne (snoc_lt l1 hq32) (snoc_lt l2 hq32) (k := 2) (by omega) w1 (by omega) (by omega) ?_)
      rcases hne with h | h
      · exact .inl h
      · exact .inr (by omega)
    | [z], [], _, hd, w1, hg2, _ =>
      have hz := hg2 z (by simp)
      refine .done (last_ne (snoc_lt l1 hq32) (snoc_lt l2 hq32) (k := 1) (by omega) w1 (by omega) (by omega) ?_)
      rcases hne with h | h
      · exact .inl h
      · exact .inr (by omega)
    | _ :: _ :: _, _, hgl, _, _, _, _ => exact absurd hgl (by simp only [List.length_cons]; omega)
    | [_], _ :: _, hgl, _, _, _, _ => exact absurd hgl (by simp only [List.length_cons, List.length_nil]; omega)
    | [], _ :: _ :: _, hgl, _, _, _, _ => exact absurd hgl (by simp only [List.length_cons, List.length_nil]; omega)
theorem Two.fold : ∀ (qs : List Int) {a b : List Int × List Int}, Two a b → Sm a → Sm b → (∀ q ∈ qs, 0 ≤ q ∧ q ≤ 94) → Two (qs.foldl stepV a) (qs.foldl stepV b)
  | [], _, _, h, _, _, _ => h
  | q :: qs, _, _, h, ha, hb, hq =>
    have hq0 := hq q (by simp)
    Two.fold qs (h.step ha hb hq0) (ha.step hq0) (hb.step hq0) fun p hp => hq p (List.mem_cons_of_mem _ hp)
theorem Two.end {a b : List Int × List Int} (h : Two a b) (ha : Sm a) (hb : Sm b) : rB (endV a) ≠ rB (endV b) := by
  have l1 := ha.lt
  have l2 := hb.lt
  have hg2 := ha.b2
  have hgl := ha.l2
  cases h with
  | @done vs us gs h =>
    simp only at l1 l2 hg2 hgl
    match gs, hg2, hgl with
    | [], _, _ => exact h
    | [x], hg2, _ =>
      have hx := hg2 x (by simp)
      exact snoc_ne l1 l2 h _ (by omega)
    | [x, y], hg2, _ =>
      have hx := hg2 x (by simp)
      have hy := hg2 y (by simp)
      exact snoc_ne l1 l2 h _ (by omega)
  | @wait vs us pre post x y e hx hy hd hne =>
    simp only at l1 l2 hg2 hgl
    rw [List.length_append, List.length_cons] at hgl
    match pre, post, hgl, hd, hg2 with
    | [], [], _, hd, _ => exact last_ne l1 l2 (k := 0) (by omega) hd (by omega) (by omega) hne
    | [], [z], _, hd, hg2 =>
      have hz := hg2 z (by simp)
      refine last_ne l1 l2 (k := 1) (by omega) hd (by omega) (by omega) (hne.imp id fun h => by omega)
    | [z], [], _, hd, hg2 =>
      have hz := hg2 z (by simp)
      refine last_ne l1 l2 (k := 0) (by omega) hd (by omega) (by omega) (hne.imp id fun h => by omega)
    | _ :: _ :: _, _, hgl, _, _ => exact absurd hgl (by simp only [List.length_cons]; omega)
    | [_], _ :: _, hgl, _, _ => exact absurd hgl (by simp only [List.length_cons, List.length_nil]; omega)
    | [], _ :: _ :: _, hgl, _, _ => exact absurd hgl (by simp only [List.length_cons, List.length_nil]; omega)
/-- The place where they differ. -/
theorem Two.first {a : List Int × List Int} (ha : Sm a) {p r : Int} (hp : 0 ≤ p ∧ p ≤ 94) (hr : 0 ≤ r ∧ r ≤ 94) (hne : p ≠ r) : Two (stepV a p) (stepV a r) := by
  have l1 := ha.lt
  have hg2 := ha.b2
  have hgl := ha.l2
  obtain ⟨vs, gs⟩ := a
  simp only at l1 hg2 hgl
  obtain ⟨e, he, hen⟩ := b64_xor (v := p % 32) (u := r % 32) (by omega) (by omega)
  have w1 : rB (vs ++ [p % 32]) ^^^ rB (vs ++ [r % 32]) = BitVec.ofNat 64 e.val <<< (5 * 0) := by
    rw [rB_snoc, rB_snoc, step_diff l1 l1, BitVec.xor_self, he, tB_first]
    simp
  have hd : e.val ≠ 0 ∨ p / 32 ≠ r / 32 := by
    by_cases h : p % 32 = r % 32
    · exact .inr (by omega)
    · exact .inl (hen h)
  match gs, hg2, hgl with
  | [], _, _ => exact .wait [] [] (p / 32) (r / 32) e (by omega) (by omega) w1 hd
  | [x], _, _ => exact .wait [x] [] (p / 32) (r / 32) e (by omega) (by omega) w1 hd
  | [x, y], hg2, _ =>
    have hx := hg2 x (by simp)
    have hy := hg2 y (by simp)
    exact .done (last_ne (snoc_lt l1 (by omega)) (snoc_lt l1 (by omega)) (k := 0) (by omega) w1 (by omega) (by omega) (hd.imp id fun h => by omega))
/-! ### The letters tell the value -/
theorem letters_inj {a b : BitVec 64} (ha : a.toNat < 2 ^ 40) (hb : b.toNat < 2 ^ 40) (h : lettersF a 8 = lettersF b 8) : a = b := by
  have hk : ∀ k, k < 8 → (a.toNat / 2 ^ (5 * (7 - k))) % 32 = (b.toNat / 2 ^ (5 * (7 - k))) % 32 := by
    intro k hk
    have h1 := congrArg (fun l => l[k]?) h
    have hand : ∀ (c : BitVec 64) (j : Nat), ((c >>> j) &&& 31#64).toNat = (c.toNat / 2 ^ j) % 32 := fun c j => by
      rw [BitVec.toNat_and, BitVec.toNat_ushiftRight, Nat.shiftRight_eq_div_pow]
      exact Nat.and_two_pow_sub_one_eq_mod _ 5
    simp only [lettersF, List.getElem?_map, List.getElem?_range hk, Option.map_some, hand, Option.some.injEq] at h1
    have e : 8 - 1 - k = 7 - k := by omega
    rw [e] at h1
    exact_mod_cast h1
  have h0 := hk 0 (by decide)
  have h1 := hk 1 (by decide)
  have h2 := hk 2 (by decide)
  have h3 := hk 3 (by decide)
  have h4 := hk 4 (by decide)
  have h5 := hk 5 (by decide)
  have h6 := hk 6 (by decide)
  have h7 := hk 7 (by decide)
  simp only [Nat.reduceSub, Nat.reduceMul, Nat.reducePow] at h0 h1 h2 h3 h4 h5 h6 h7 ha hb
  refine BitVec.eq_of_toNat_eq ?_
  omega
theorem l32F_inj {x y : Int} (hx : 0 ≤ x ∧ x ≤ 31) (hy : 0 ≤ y ∧ y ≤ 31) (h : l32F x = l32F y) : x = y := by
  obtain ⟨n, rfl⟩ := Int.eq_ofNat_of_zero_le hx.1
  obtain ⟨m, rfl⟩ := Int.eq_ofNat_of_zero_le hy.1
  have hd : ∀ n m : Fin 32, l32F ((n.val : Nat) : Int) = l32F ((m.val : Nat) : Int) → ((n.val : Nat) : Int) = ((m.val : Nat) : Int) := by decide +kernel
  exact hd ⟨n, by omega⟩ ⟨m, by omega⟩ h
theorem map_l32 : ∀ {a b : List Int}, (∀ x ∈ a, 0 ≤ x ∧ x ≤ 31) → (∀ x ∈ b, 0 ≤ x ∧ x ≤ 31) → a.map l32F = b.map l32F → a = b
  | [], [], _, _, _ => rfl
  | [], _ :: _, _, _, h => by simp at h
  | _ :: _, [], _, _, h => by simp at h
  | x :: a, y :: b, ha, hb, h => by
    simp only [List.map_cons, List.cons.injEq] at h
    rw [l32F_inj (ha x (by simp)) (hb y (by simp)) h.1, map_l32 (fun z hz => ha z (List.mem_cons_of_mem _ hz)) (fun z hz => hb z (List.mem_cons_of_mem _ hz)) h.2]
theorem letters_b (c : BitVec 64) (n : Nat) : ∀ x ∈ lettersF c n, 0 ≤ x ∧ x ≤ 31 := fun x hx => by
  obtain ⟨j, _, rfl⟩ := List.mem_map.1 hx
  have := and31_lt (c >>> (5 * (n - 1 - j)))
  omega
/-- Two lists of places that differ in one have sums that differ. -/
theorem sum_ne {pre post : List Int} {p r : Int} (h : ∀ q ∈ pre ++ p :: post, 0 ≤ q ∧ q ≤ 94) (hr : 0 ≤ r ∧ r ≤ 94) (hne : p ≠ r) : sumOf (pre ++ p :: post) ≠ sumOf (pre ++ r :: post) := by
  have hpre : ∀ q ∈ pre, 0 ≤ q ∧ q ≤ 94 := fun q hq => h q (by simp [hq])
  have hp : 0 ≤ p ∧ p ≤ 94 := h p (by simp)
  have hpost : ∀ q ∈ post, 0 ≤ q ∧ q ≤ 94 := fun q hq => h q (by simp [hq])
  have s0 : Sm ([], []) := ⟨fun v hv => (by cases hv), fun v hv => (by cases hv), by simp⟩
  have s1 := s0.fold pre hpre
  have t1 := Two.first s1 hp hr hne
  have sp := s1.step hp
  have sr := s1.step hr
  have t2 := t1.fold post sp sr hpost
  have sp2 := sp.fold post hpost
  have sr2 := sr.fold post hpost
  have t3 := t2.end sp2 sr2
  have e : ∀ x, valsOf (pre ++ x :: post) = endV (post.foldl stepV (stepV (pre.foldl stepV ([], [])) x)) := fun x => by simp [valsOf]
  have hend : ∀ {st : List Int × List Int}, Sm st → (rB (endV st)).toNat < 2 ^ 40 := fun {st} h => by
    obtain ⟨vs, gs⟩ := st
    have l := h.lt
    have h2 := h.b2
    have h4 := h.l2
    simp only at l h2 h4
    match gs, h2, h4 with
    | [], _, _ => exact l
    | [x], h2, _ => have := h2 x (by simp); exact snoc_lt l (by omega)
    | [x, y], h2, _ => have := h2 x (by simp); have := h2 y (by simp); exact snoc_lt l (by omega)
  intro heq
  unfold sumOf at heq
  rw [e, e] at heq
  have h0 : ∀ v ∈ List.replicate 8 (0 : Int), 0 ≤ v ∧ v < 32 := fun v hv => by rw [(List.mem_replicate.1 hv).2]; omega
  obtain ⟨q1, q2, q3⟩ := run_ne (hend sp2) (hend sr2) t3 (List.replicate 8 0) h0
  have er : ∀ vs, runB 35 descG (vs ++ List.replicate 8 0) = (List.replicate 8 0).foldl (stepB 35 descG) (rB vs) := fun vs => by rw [runB, List.foldl_append]; rfl
  rw [er, er] at heq
  have h5 := map_l32 (letters_b _ _) (letters_b _ _) heq
  have h6 := letters_inj (xor_lt q1 (by decide)) (xor_lt q2 (by decide)) h5
  exact q3 (by
    have := congrArg (· ^^^ 1#64) h6
    simpa [BitVec.xor_assoc] using this)
theorem place_inj {c d : Int} : ∀ {l : List Int} {k : Nat}, 0 ≤ placeF c l k → placeF c l k = placeF d l k → c = d
  | [], k, h, _ => by simp [placeF] at h
  | b :: l, k, h, he => by
    simp only [placeF] at h he
    split at he
    · rename_i h1
      split at he
      · rename_i h2; rw [← h1, ← h2]
      · have := placeF_lt d l (k + 1)
        have hlow : ∀ (l : List Int) (k : Nat), placeF d l k = -1 ∨ (k : Int) ≤ placeF d l k := by
          intro l
          induction l with
          | nil => intro k; exact .inl rfl
          | cons x l ih =>
            intro k
            simp only [placeF]
            split
            · exact .inr (Int.le_refl _)
            · rcases ih (k + 1) with h | h
              · exact .inl h
              · exact .inr (by omega)
        rcases hlow l (k + 1) with h3 | h3 <;> omega
    · rename_i h1
      rw [if_neg h1] at h
      split at he
      · rename_i h2
        have hlow : ∀ (l : List Int) (k : Nat), placeF c l k = -1 ∨ (k : Int) ≤ placeF c l k := by
          intro l
          induction l with
          | nil => intro k; exact .inl rfl
          | cons x l ih =>
            intro k
            simp only [placeF]
            split
            · exact .inr (Int.le_refl _)
            · rcases ih (k + 1) with h | h
              · exact .inl h
              · exact .inr (by omega)
        rcases hlow l (k + 1) with h3 | h3 <;> omega
      · exact place_inj h he
/-- One byte that is another one: another checksum, or none. -/
theorem check_ne {pre post : List Int} {b c : Int} {A : List Int} (hA : checkF (pre ++ b :: post) = some A) (hne : b ≠ c) : checkF (pre ++ c :: post) ≠ some A := by
  intro hB
  have hall : ∀ {l A}, checkF l = some A → (∀ q ∈ placesF l, 0 ≤ q ∧ q ≤ 94) ∧ A = sumOf (placesF l) := fun {l A} h => by
    unfold checkF at h
    split at h
    · rename_i ha
      refine ⟨fun q hq => ?_, (Option.some.inj h).symm⟩
      have h1 := of_decide_eq_true (List.all_eq_true.1 ha q hq)
      obtain ⟨x, _, rfl⟩ := List.mem_map.1 hq
      exact ⟨h1, (place_in x).2⟩
    · cases h
  obtain ⟨h1, h2⟩ := hall hA
  obtain ⟨h3, h4⟩ := hall hB
  have e : ∀ x, placesF (pre ++ x :: post) = placesF pre ++ placeF x inS 0 :: placesF post := fun x => by simp [placesF]
  rw [e] at h1 h2 h3 h4
  have hp := h1 (placeF b inS 0) (by simp)
  have hr := h3 (placeF c inS 0) (by simp)
  exact sum_ne h1 hr (fun he => hne (place_inj hp.1 he)) (h2.symm.trans h4)
end Go.Proofs
