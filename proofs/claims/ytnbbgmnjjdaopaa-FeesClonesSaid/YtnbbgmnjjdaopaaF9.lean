/- Plain: the two books stay alike, the counts stay in order. -/
import Derived.Test.YtnbbgmnjjdaopaaF8
set_option linter.unusedSimpArgs false
set_option linter.unusedVariables false
set_option linter.constructorNameAsVariable false
namespace Go.Proofs
open Go.Vc Go.Proofs.Fees

theorem getD_set (l : List Int) (i j : Nat) (x : Int) (hi : i < l.length) : (l.set i x).getD j 0 = if i = j then x else l.getD j 0 := by
  simp only [List.getD_eq_getElem?_getD, List.getElem?_set]
  by_cases h : i = j
  · subst h; simp [hi]
  · simp [h]
theorem getD_map (f : Int → Int) (h0 : f 0 = 0) (l : List Int) (i : Nat) : (l.map f).getD i 0 = f (l.getD i 0) := by
  simp only [List.getD_eq_getElem?_getD, List.getElem?_map]
  cases l[i]? <;> simp [h0]
theorem hitT_len (o : Nat) (wd : Int) : ∀ (n : Nat) (c : List Int), (hitT o wd n c).length = c.length
  | 0, c => rfl
  | n + 1, c => by simp only [hitT]; split <;> simp [hitT_len o wd n c]
theorem hitT_getD (o : Nat) (wd : Int) (c : List Int) (j : Nat) : ∀ (n : Nat), o + 1 + n ≤ c.length →
    (hitT o wd n c).getD j 0 = if o + 1 ≤ j ∧ j < o + 1 + n ∧ wd ≤ ((j - o : Nat) : Int) then IntKind.i64.wrap (c.getD j 0 + 1000) else c.getD j 0
  | 0, _ => by rw [if_neg (by omega)]; rfl
  | n + 1, h => by
    have ih := fun j => hitT_getD o wd c j n (by omega)
    simp only [hitT]
    split
    · rename_i hw
      rw [getD_set _ _ _ _ (by rw [hitT_len]; omega)]
      by_cases hj : o + 1 + n = j
      · subst hj
        rw [if_pos rfl, ih, if_neg (by omega), if_pos (by omega)]
      · rw [if_neg hj, ih]
        by_cases h1 : o + 1 ≤ j ∧ j < o + 1 + n ∧ wd ≤ ((j - o : Nat) : Int)
        · rw [if_pos h1, if_pos (by omega)]
        · rw [if_neg h1, if_neg (by omega)]
    · rename_i hw
      rw [ih]
      by_cases h1 : o + 1 ≤ j ∧ j < o + 1 + n ∧ wd ≤ ((j - o : Nat) : Int)
      · rw [if_pos h1, if_pos (by omega)]
      · rw [if_neg h1, if_neg (by omega)]

theorem fade_zero : fadeF 0 = 0 := by decide
structure Rel (cnt rc : List Int) : Prop where
  l1 : cnt.length = 312
  l2 : rc.length = 312
  all : ∀ k, k < 24 → rc.getD k 0 = cnt.getD (k * 13) 0
  win : ∀ k t, k < 24 → t < 12 → rc.getD (24 + k * 12 + t) 0 = cnt.getD (k * 13 + 1 + t) 0
theorem Rel.fade {cnt rc : List Int} (h : Rel cnt rc) : Rel (cnt.map fadeF) (rc.map fadeF) :=
  ⟨by simp [h.l1], by simp [h.l2], fun k hk => by rw [getD_map _ fade_zero, getD_map _ fade_zero, h.all k hk], fun k t hk ht => by rw [getD_map _ fade_zero, getD_map _ fade_zero, h.win k t hk ht]⟩
theorem hitC_len (h : Int) (e : WE) (c : List Int) : (hitC h e c).length = c.length := by simp [hitC, hitT_len]
theorem hitC_getD (h : Int) (e : WE) (c : List Int) (hl : c.length = 312) (he : e.2.1.toNat < 24) (j : Nat) : (hitC h e c).getD j 0 =
    if j = e.2.1.toNat * 13 ∨ (e.2.1.toNat * 13 + 1 ≤ j ∧ j < e.2.1.toNat * 13 + 13 ∧ waitedF h e.2.2 ≤ ((j - e.2.1.toNat * 13 : Nat) : Int)) then IntKind.i64.wrap (c.getD j 0 + 1000) else c.getD j 0 := by
  rw [hitC, hitT_getD _ _ _ _ _ (by simp [hl]; omega), getD_set _ _ _ _ (by omega)]
  by_cases hj : e.2.1.toNat * 13 = j
  · subst hj
    rw [if_neg (by omega), if_pos rfl, if_pos (.inl rfl)]
  · rw [if_neg hj]
    by_cases h1 : e.2.1.toNat * 13 + 1 ≤ j ∧ j < e.2.1.toNat * 13 + 1 + 12 ∧ waitedF h e.2.2 ≤ ((j - e.2.1.toNat * 13 : Nat) : Int)
    · rw [if_pos h1, if_pos (by omega)]
    · rw [if_neg h1, if_neg (by omega)]
theorem rhitC_getD (h : Int) (e : WE) (c : List Int) (hl : c.length = 312) (he : e.2.1.toNat < 24) (j : Nat) : (rhitC h e c).getD j 0 =
    if j = e.2.1.toNat ∨ (24 + e.2.1.toNat * 12 ≤ j ∧ j < 24 + e.2.1.toNat * 12 + 12 ∧ waitedF h e.2.2 ≤ ((j - (23 + e.2.1.toNat * 12) : Nat) : Int)) then IntKind.i64.wrap (c.getD j 0 + 1000) else c.getD j 0 := by
  rw [rhitC, hitT_getD _ _ _ _ _ (by simp [hl]; omega), getD_set _ _ _ _ (by omega)]
  by_cases hj : e.2.1.toNat = j
  · subst hj
    rw [if_neg (by omega), if_pos rfl, if_pos (.inl rfl)]
  · rw [if_neg hj]
    by_cases h1 : 23 + e.2.1.toNat * 12 + 1 ≤ j ∧ j < 23 + e.2.1.toNat * 12 + 1 + 12 ∧ waitedF h e.2.2 ≤ ((j - (23 + e.2.1.toNat * 12) : Nat) : Int)
    · rw [if_pos h1, if_pos (by omega)]
    · rw [if_neg h1, if_neg (by omega)]
theorem Rel.hit {cnt rc : List Int} (h : Rel cnt rc) (ht : Int) (e : WE) (he : e.2.1.toNat < 24) : Rel (hitC ht e cnt) (rhitC ht e rc) := by
  refine ⟨by rw [hitC_len, h.l1], by simp [rhitC, hitT_len, h.l2], fun k hk => ?_, fun k t hk htt => ?_⟩
  · rw [hitC_getD _ _ _ h.l1 he, rhitC_getD _ _ _ h.l2 he, h.all k hk]
    by_cases h1 : k = e.2.1.toNat
    · rw [if_pos (.inl h1), if_pos (.inl (by rw [h1]))]
    · rw [if_neg (by omega), if_neg (by omega)]
  · rw [hitC_getD _ _ _ h.l1 he, rhitC_getD _ _ _ h.l2 he, h.win k t hk htt]
    generalize waitedF ht e.2.2 = wd
    by_cases h1 : k = e.2.1.toNat
    · subst h1
      by_cases h2 : wd ≤ (t : Int) + 1
      · rw [if_pos (by omega), if_pos (by omega)]
      · rw [if_neg (by omega), if_neg (by omega)]
    · rw [if_neg (by omega), if_neg (by omega)]
theorem Rel.hits {ht : Int} : ∀ {ids : List (Array Value)} {cnt rc : List Int} {ws : List WE}, Rel cnt rc → BOK ws → Rel (hits ht ids cnt ws).1 (rhits ht ids rc ws).1 ∧ (hits ht ids cnt ws).2 = (rhits ht ids rc ws).2 ∧ BOK (hits ht ids cnt ws).2 ∧ (hits ht ids cnt ws).2.length ≤ ws.length
  | [], cnt, rc, ws, h, hB => ⟨h, rfl, hB, Nat.le_refl _⟩
  | k :: ids, cnt, rc, ws, h, hB => by
    simp only [Go.Proofs.hits, rhits]
    cases hq : (idxW k ws).bind (ws[·]?) with
    | none => exact Rel.hits h hB
    | some e =>
      obtain ⟨i, _, hei⟩ := Option.bind_eq_some_iff.1 hq
      have := hB e (List.mem_of_getElem? hei)
      obtain ⟨h1, h2, h3, h4⟩ := Rel.hits (ht := ht) (ids := ids) (h.hit ht e (by omega)) (BOK_del (k := k) hB)
      exact ⟨h1, h2, h3, Nat.le_trans h4 (delW_len k ws)⟩

/-- The counts are in order and not too big. -/
structure Good (N : Nat) (c : List Int) : Prop where
  len : c.length = 312
  top : ∀ k, k < 24 → c.getD (k * 13) 0 ≤ N
  le : ∀ k t, k < 24 → t < 12 → 0 ≤ c.getD (k * 13 + 1 + t) 0 ∧ c.getD (k * 13 + 1 + t) 0 ≤ c.getD (k * 13) 0
  up : ∀ k t, k < 24 → t < 11 → c.getD (k * 13 + 1 + t) 0 ≤ c.getD (k * 13 + 2 + t) 0
theorem fade_eq {x : Int} (h0 : 0 ≤ x) (h1 : x ≤ 1000000000000) : fadeF x = x * 998 / 1000 := by
  unfold fadeF
  rw [wrap_i64 (x := x * 998) (by omega) (by omega), Int.tdiv_eq_ediv_of_nonneg (by omega), wrap_i64 (by omega) (by omega)]
theorem Good.fade {N : Nat} {c : List Int} (h : Good N c) (hN : N ≤ 1000000000000) : Good N (c.map fadeF) := by
  refine ⟨by simp [h.len], fun k hk => ?_, fun k t hk ht => ?_, fun k t hk ht => ?_⟩
  · have h1 := h.top k hk; have h2 := (h.le k 0 hk (by omega)); rw [getD_map _ fade_zero, fade_eq (by omega) (by omega)]; omega
  · have h1 := h.top k hk; have h2 := (h.le k t hk ht); rw [getD_map _ fade_zero, getD_map _ fade_zero, fade_eq (by omega) (by omega), fade_eq (by omega) (by omega)]; omega
  · have h1 := h.top k hk; have h2 := (h.le k t hk (by omega)); have h3 := h.le k (t + 1) hk (by omega); have h4 := h.up k t hk ht
    have e : k * 13 + 1 + (t + 1) = k * 13 + 2 + t := by omega
    rw [e] at h3
    rw [getD_map _ fade_zero, getD_map _ fade_zero, fade_eq (by omega) (by omega), fade_eq (by omega) (by omega)]; omega
theorem Good.hit {N : Nat} {c : List Int} (h : Good N c) (hN : N ≤ 1000000000000) (ht : Int) (e : WE) (he : e.2.1.toNat < 24) : Good (N + 1000) (hitC ht e c) := by
  have hw : ∀ x : Int, 0 ≤ x → x ≤ N → IntKind.i64.wrap (x + 1000) = x + 1000 := fun x h0 h1 => wrap_i64 (by omega) (by omega)
  refine ⟨by rw [hitC_len, h.len], fun k hk => ?_, fun k t hk htt => ?_, fun k t hk htt => ?_⟩
  · have h1 := h.top k hk; have h2 := (h.le k 0 hk (by omega))
    rw [hitC_getD _ _ _ h.len he]
    split
    · rw [hw _ (by omega) (by omega)]; omega
    · omega
  · have h1 := h.top k hk; have h2 := (h.le k t hk htt)
    rw [hitC_getD _ _ _ h.len he, hitC_getD _ _ _ h.len he]
    generalize waitedF ht e.2.2 = wd
    rw [hw _ (by omega) (by omega), hw _ (by omega) (by omega)]
    split <;> split <;> omega
  · have h1 := h.top k hk; have h2 := (h.le k t hk (by omega)); have h3 := h.le k (t + 1) hk (by omega); have h4 := h.up k t hk htt
    have e1 : k * 13 + 1 + (t + 1) = k * 13 + 2 + t := by omega
    rw [e1] at h3
    rw [hitC_getD _ _ _ h.len he, hitC_getD _ _ _ h.len he]
    generalize waitedF ht e.2.2 = wd
    rw [hw _ (by omega) (by omega), hw _ (by omega) (by omega)]
    split <;> split <;> omega
theorem Good.mono {N M : Nat} {c : List Int} (h : Good N c) (hN : N ≤ M) : Good M c := ⟨h.len, fun k hk => by have := h.top k hk; omega, h.le, h.up⟩
theorem Good.hits {ht : Int} : ∀ {ids : List (Array Value)} {N : Nat} {cnt : List Int} {ws : List WE}, Good N cnt → BOK ws → N + 1000 * ids.length ≤ 1000000000000 → Good (N + 1000 * ids.length) (hits ht ids cnt ws).1
  | [], N, cnt, ws, h, hB, _ => h
  | k :: ids, N, cnt, ws, h, hB, hN => by
    simp only [Go.Proofs.hits, List.length_cons] at hN ⊢
    cases hq : (idxW k ws).bind (ws[·]?) with
    | none =>
      have := Good.hits (ht := ht) (ids := ids) h hB (by omega)
      exact this.mono (by omega)
    | some e =>
      obtain ⟨i, _, hei⟩ := Option.bind_eq_some_iff.1 hq
      have := hB e (List.mem_of_getElem? hei)
      have := Good.hits (ht := ht) (ids := ids) (h.hit (by omega) ht e (by omega)) (BOK_del (k := k) hB) (by omega)
      exact this.mono (by omega)
theorem getD_rep (n i : Nat) : (List.replicate n (0 : Int)).getD i 0 = 0 := by
  rw [List.getD_eq_getElem?_getD, List.getElem?_replicate]; split <;> rfl
theorem Good.zero : Good 0 (List.replicate 312 0) :=
  ⟨List.length_replicate, fun k _ => by rw [getD_rep]; omega, fun k t _ _ => by rw [getD_rep, getD_rep]; omega, fun k t _ _ => by rw [getD_rep, getD_rep]; omega⟩
theorem Rel.zero : Rel (List.replicate 312 0) (List.replicate 312 0) :=
  ⟨List.length_replicate, List.length_replicate, fun _ _ => by rw [getD_rep, getD_rep], fun _ _ _ _ => by rw [getD_rep, getD_rep]⟩
theorem bk_le : ∀ (n : Nat) (r t : Int) (k : Nat), bk n r t k ≤ n + k
  | 0, _, _, k => by simp [bk]
  | n + 1, r, t, k => by
    rw [bk_succ]
    split
    · have := bk_le n r (t * 2) (k + 1); omega
    · omega
theorem bucketF_lt (r : Int) : bucketF r < 24 := by have := bk_le 23 r 2000 0; unfold bucketF; omega
theorem BOK_ent {k : Array Value} {r h : Int} {ws : List WE} (hB : BOK ws) : BOK (entW k (bucketF r) h ws) := by
  unfold entW
  split
  · exact hB
  · intro e he
    simp only [addW, List.mem_append, List.mem_singleton] at he
    rcases he with he | rfl
    · exact hB e he
    · have := bucketF_lt r; simp only; omega
theorem entW_len (k : Array Value) (b : Nat) (h : Int) (ws : List WE) : (entW k b h ws).length ≤ ws.length + 1 := by
  unfold entW; split <;> simp [addW]
end Go.Proofs
