/- SHA-256: one block, as the program takes it: plain facts. -/
import Derived.Test.YthjgmajfkfhdaaaH2
set_option linter.unusedSimpArgs false
set_option linter.unusedVariables false
set_option linter.constructorNameAsVariable false
namespace Go.Proofs
open Go.Vc
set_option maxRecDepth 10000

theorem sch_le (j k : Nat) (l : List (BitVec 32)) (h : j ≤ k) : sch j l <+: sch k l := by
  induction k with
  | zero => rw [show j = 0 by omega]; exact List.prefix_refl _
  | succ k ih =>
    by_cases e : j = k + 1
    · rw [e]; exact List.prefix_refl _
    · rw [sch_snoc]
      exact (ih (by omega)).trans (List.prefix_append _ _)
theorem ws_take (blk : List Int) (i : Nat) (h1 : 16 ≤ i) (h2 : i ≤ 64) : (wsF blk).take i = sch (i - 16) (w16 blk) := by
  have h := sch_le (i - 16) 48 (w16 blk) (by omega)
  have e := List.prefix_iff_eq_take.1 h
  rw [sch_len, w16_len, show 16 + (i - 16) = i by omega] at e
  exact e.symm
theorem ws_rec (blk : List Int) (i : Nat) (h1 : 16 ≤ i) (h2 : i < 64) : (wsF blk)[i]? = some (nxtW ((wsF blk).take i)) := by
  have h := ws_take blk (i + 1) (by omega) (by omega)
  rw [show i + 1 - 16 = (i - 16) + 1 by omega, sch_snoc, ← ws_take blk i h1 (by omega)] at h
  have h3 : ((wsF blk).take (i + 1))[i]? = (wsF blk)[i]? := List.getElem?_take_of_lt (by omega)
  have hl : ((wsF blk).take i).length = i := by rw [List.length_take, wsF_len]; omega
  rw [← h3, h, List.getElem?_append_right (by omega), hl, Nat.sub_self]
  rfl
theorem ws_16 (blk : List Int) (i : Nat) (h : i < 16) : (wsF blk)[i]? = some (wordF (blk.getD (4 * i) 0) (blk.getD (4 * i + 1) 0) (blk.getD (4 * i + 2) 0) (blk.getD (4 * i + 3) 0)) := by
  obtain ⟨t, ht⟩ := sch_pre 48 (w16 blk)
  unfold wsF
  rw [← ht, List.getElem?_append_left (by rw [w16_len]; exact h)]
  unfold w16
  rw [List.getElem?_map, List.getElem?_range h]
  rfl
/-- The words so far, noughts behind. -/
def arrW (ws : List (BitVec 32)) (i : Nat) : Array Value := (((ws.take i).map U32) ++ List.replicate (64 - i) (U32 0#32)).toArray
theorem arrW_0 (ws : List (BitVec 32)) : arrW ws 0 = zc [(64, .int .u32 0)] := by
  unfold arrW; rw [List.take_zero]; simp [zc, runs, U32]
theorem arrW_size (ws : List (BitVec 32)) (i : Nat) (hl : ws.length = 64) (hi : i ≤ 64) : (arrW ws i).size = 64 := by simp [arrW, hl]; omega
theorem arrW_at (ws : List (BitVec 32)) (i k : Nat) (hl : ws.length = 64) (hk : k < i) (hi : i ≤ 64) : (arrW ws i)[k]? = some (U32 (ws.getD k 0)) := by
  unfold arrW
  rw [List.getElem?_toArray, List.getElem?_append_left (by simp [hl]; omega), List.getElem?_map, List.getElem?_take_of_lt hk, List.getElem?_eq_getElem (by omega)]
  simp [List.getD, List.getElem?_eq_getElem (show k < ws.length by omega)]
theorem arrW_set (ws : List (BitVec 32)) (i : Nat) (x : BitVec 32) (hl : ws.length = 64) (hi : i < 64) (hx : ws[i]? = some x) : (arrW ws i).setIfInBounds i (U32 x) = arrW ws (i + 1) := by
  unfold arrW
  rw [List.setIfInBounds_toArray]
  congr 1
  have hlt : ((ws.take i).map U32).length = i := by simp [hl]; omega
  rw [show 64 - i = (64 - (i + 1)) + 1 by omega, List.replicate_succ, List.set_append_right _ _ (by omega), hlt, Nat.sub_self, List.set_cons_zero, List.take_add_one, hx]
  simp
theorem arrW_all (ws : List (BitVec 32)) (hl : ws.length = 64) : arrW ws 64 = wcs ws := by
  unfold arrW wcs
  rw [List.take_of_length_le (by omega)]
  simp
theorem rndN_snoc : ∀ (i : Nat) (s : S8) (ks xs : List (BitVec 32)) (hk : i < ks.length) (hx : i < xs.length), rndN (i + 1) s ks xs = rnd (rndN i s ks xs) ks[i] xs[i]
  | 0, s, k :: ks, x :: xs, _, _ => by cases ks <;> cases xs <;> rfl
  | i + 1, s, k :: ks, x :: xs, hk, hx => by
    show rndN (i + 1) (rnd s k x) ks xs = rnd (rndN i (rnd s k x) ks xs) _ _
    rw [rndN_snoc i _ ks xs (by simpa using hk) (by simpa using hx)]
    rfl
  | _, _, [], _, hk, _ => by simp at hk
  | _, _, _ :: _, [], _, hx => by simp at hx
theorem S8.list_add (s v : S8) : (s.add v).list = List.zipWith (· + ·) s.list v.list := rfl
def addA (s v : S8) (rest : List Value) (i : Nat) : Array Value := ((((s.add v).list.take i ++ s.list.drop i).map U32) ++ rest).toArray
theorem addA_0 (s v : S8) (rest : List Value) : addA s v rest 0 = (s.list.map U32 ++ rest).toArray := rfl
theorem addA_8 (s v : S8) (rest : List Value) : addA s v rest 8 = ((s.add v).list.map U32 ++ rest).toArray := by simp [addA, S8.list]
theorem addA_at (s v : S8) (rest : List Value) (i : Nat) (h : i < 8) : (addA s v rest i)[i]? = some (U32 (s.list.getD i 0)) := by
  match i, h with
  | 0, _ => rfl
  | 1, _ => rfl
  | 2, _ => rfl
  | 3, _ => rfl
  | 4, _ => rfl
  | 5, _ => rfl
  | 6, _ => rfl
  | 7, _ => rfl
theorem addA_set (s v : S8) (rest : List Value) (i : Nat) (h : i < 8) : (addA s v rest i).setIfInBounds i (U32 (s.list.getD i 0 + v.list.getD i 0)) = addA s v rest (i + 1) := by
  unfold addA
  rw [List.setIfInBounds_toArray]
  match i, h with
  | 0, _ => rfl
  | 1, _ => rfl
  | 2, _ => rfl
  | 3, _ => rfl
  | 4, _ => rfl
  | 5, _ => rfl
  | 6, _ => rfl
  | 7, _ => rfl
theorem addA_size (s v : S8) (rest : List Value) (i : Nat) (h : i ≤ 8) : (addA s v rest i).size = 8 + rest.length := by
  simp [addA, S8.list, S8.add]; omega
theorem wcs8_at (s : S8) (i : Nat) (h : i < 8) : (wcs s.list)[i]? = some (U32 (s.list.getD i 0)) := by
  match i, h with
  | 0, _ => rfl
  | 1, _ => rfl
  | 2, _ => rfl
  | 3, _ => rfl
  | 4, _ => rfl
  | 5, _ => rfl
  | 6, _ => rfl
  | 7, _ => rfl
theorem ext8 (s : S8) (rest : List Value) : ((s.list.map U32 ++ rest).toArray).extract 0 (0 + 8) = wcs s.list := by
  apply Array.ext'
  simp [wcs, S8.list]
theorem rd8 (s : S8) (rest : List Value) (T : TypeId) : rdO (some (.cells ((s.list.map U32 ++ rest).toArray) T (0, 0))) 0 8 = some (wcs s.list) := by
  rw [rdO_some _ _ _ _ _ (by simp [S8.list]), ext8]
end Go.Proofs
