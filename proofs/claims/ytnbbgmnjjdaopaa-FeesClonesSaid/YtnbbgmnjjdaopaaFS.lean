/- The law FeesClones: its walk. -/
import Derived.Test.YtnbbgmnjjdaopaaFP
set_option linter.unusedSimpArgs false
set_option linter.unusedVariables false
set_option linter.constructorNameAsVariable false
namespace Go.Proofs
open Go.Vc Go.Proofs.Fees
set_option maxRecDepth 10000

noncomputable def foundW (x : WE) (vs : List WE) : Bool := vs.any fun y => eqc (wcell x).toList (wcell y).toList
theorem wcell_inj {x y : WE} (hx : HK x.1) (hy : HK y.1) : eqc (wcell x).toList (wcell y).toList = true ↔ x = y := by
  rw [eqc_iff]
  refine ⟨fun h => ?_, fun h => by rw [h]⟩
  simp only [wcell, Array.toList_append] at h
  have hl : x.1.toList.length = y.1.toList.length := by rw [Array.length_toList, Array.length_toList, HK_size hx, HK_size hy]
  obtain ⟨h1, h2⟩ := List.append_inj h hl
  simp at h2
  exact Prod.ext (Array.ext' h1) (Prod.ext h2.1 h2.2)
theorem dist_eq {ws : List WE} (h : Dist ws) {x y : WE} (hx : x ∈ ws) (hy : y ∈ ws) (e : x.1 = y.1) : x = y := by
  induction ws with
  | nil => cases hx
  | cons a l ih =>
    obtain ⟨h1, h2⟩ := List.pairwise_cons.1 h
    rcases List.mem_cons.1 hx with rfl | hx2
    · rcases List.mem_cons.1 hy with rfl | hy
      · rfl
      · exact absurd e (h1 y hy)
    · rcases List.mem_cons.1 hy with rfl | hy
      · exact absurd e.symm (h1 x hx2)
      · exact ih h2 hx2 hy
theorem lk_found {x : WE} {vs : List WE} (hx : HK x.1) (hs : HKs vs) (hd : Dist vs) : lkW x vs = foundW x vs := by
  rw [Bool.eq_iff_iff]
  unfold foundW
  rw [List.any_eq_true]
  constructor
  · intro h
    unfold lkW at h
    cases hq : (idxW x.1 vs).bind (vs[·]?) with
    | none => rw [hq] at h; cases h
    | some f =>
      rw [hq] at h
      simp at h
      cases hi : idxW x.1 vs with
      | none => rw [hi] at hq; cases hq
      | some i =>
        obtain ⟨e, h1, h2⟩ := idxW_lt hi
        rw [hi] at hq
        simp only [Option.bind_some, h1, Option.some.injEq] at hq
        subst hq
        have hm := List.mem_of_getElem? h1
        refine ⟨e, hm, (wcell_inj hx (hs e hm)).2 (Prod.ext h2.symm (Prod.ext h.1.symm h.2.symm))⟩
  · rintro ⟨y, hy, he⟩
    obtain rfl := (wcell_inj hx (hs y hy)).1 he
    unfold lkW
    cases hi : idxW x.1 vs with
    | none => exact absurd rfl (idx_none hi x hy)
    | some i =>
      obtain ⟨e, h1, h2⟩ := idxW_lt hi
      have : e = x := dist_eq hd (List.mem_of_getElem? h1) hy h2
      subst this
      simp only [Option.bind_some, h1]
      simp
theorem eqW_self {ws : List WE} (hs : HKs ws) (hd : Dist ws) : eqW ws ws = true := by
  unfold eqW
  rw [decide_eq_true rfl, Bool.true_and, List.all_eq_true]
  intro e he
  rw [lk_found (hs e he) hs hd]
  exact List.any_eq_true.2 ⟨e, he, (wcell_inj (hs e he) (hs e he)).2 rfl⟩
theorem rel_iff {cnt rc cnt' rc' : List Int} (h : Rel cnt rc) (h' : Rel cnt' rc') : cnt = cnt' ↔ rc = rc' := by
  constructor
  · rintro rfl
    refine List.ext_getElem (by rw [h.l2, h'.l2]) fun i h1 h2 => ?_
    have g1 : rc[i] = rc.getD i 0 := by simp [List.getD, h1]
    have g2 : rc'[i] = rc'.getD i 0 := by simp [List.getD, h2]
    rw [g1, g2]
    have hl := h.l2
    by_cases hi : i < 24
    · rw [h.all i hi, h'.all i hi]
    · have e : i = 24 + (i - 24) / 12 * 12 + (i - 24) % 12 := by omega
      rw [e, h.win _ _ (by omega) (by omega), h'.win _ _ (by omega) (by omega)]
  · rintro rfl
    refine List.ext_getElem (by rw [h.l1, h'.l1]) fun i h1 h2 => ?_
    have g1 : cnt[i] = cnt.getD i 0 := by simp [List.getD, h1]
    have g2 : cnt'[i] = cnt'.getD i 0 := by simp [List.getD, h2]
    rw [g1, g2]
    have hl := h.l1
    by_cases hi : i % 13 = 0
    · have e : i = i / 13 * 13 := by omega
      rw [e, ← h.all _ (by omega), ← h'.all _ (by omega)]
    · have e : i = i / 13 * 13 + 1 + (i % 13 - 1) := by omega
      rw [e, ← h.win _ _ (by omega) (by omega), ← h'.win _ _ (by omega) (by omega)]
noncomputable def alikeW (rc rc' : List Int) (ws vs : List WE) : Bool := decide (rc.take 24 = rc'.take 24) && decide (rc.drop 24 = rc'.drop 24) && decide (ws.length = vs.length)
theorem alike_is {cnt rc cnt' rc' : List Int} {ws vs : List WE} (h : Rel cnt rc) (h' : Rel cnt' rc') (hs : HKs ws) (hs' : HKs vs) (hd : Dist vs) : (alikeW rc rc' ws vs && ws.all (foundW · vs)) = (decide (cnt = cnt') && eqW ws vs) := by
  unfold alikeW eqW
  have e1 : (decide (rc.take 24 = rc'.take 24) && decide (rc.drop 24 = rc'.drop 24)) = decide (cnt = cnt') := by
    rw [Bool.eq_iff_iff, Bool.and_eq_true, decide_eq_true_iff, decide_eq_true_iff, decide_eq_true_iff, rel_iff h h']
    refine ⟨fun ⟨h1, h2⟩ => ?_, fun h => by rw [h]; exact ⟨rfl, rfl⟩⟩
    rw [← List.take_append_drop 24 rc, h1, h2, List.take_append_drop]
  have e2 : ws.all (foundW · vs) = ws.all (lkW · vs) := by
    rw [Bool.eq_iff_iff, List.all_eq_true, List.all_eq_true]
    exact ⟨fun h e he => by rw [lk_found (hs e he) hs' hd]; exact h e he, fun h e he => by rw [← lk_found (hs e he) hs' hd]; exact h e he⟩
  rw [e1, e2, Bool.and_assoc]
theorem ints_take {rc : List Int} {v : Value} (hl : rc.length = 312) : (refC rc v).extract 0 24 = (ints (rc.take 24)).toArray := by
  apply Array.ext'
  simp [refC, ints, List.take_append, hl, List.map_take]
theorem ints_drop {rc : List Int} {v : Value} (hl : rc.length = 312) : (refC rc v).extract 24 312 = (ints (rc.drop 24)).toArray := by
  apply Array.ext'
  simp [refC, ints, List.drop_append, hl, List.map_drop, List.extract_eq_take_drop]
theorem ints_confN (n : Nat) (l : List Int) (hl : l.length = n) : conf (skR [(n, SK.i .i64)]) (ints l).toArray.toList = true := by
  have h : ∀ (n : Nat) (l : List Int), l.length = n → conf (List.replicate n (SK.i .i64)) (ints l) = true := by
    intro n
    induction n with
    | zero => intro l hl; rw [List.eq_nil_of_length_eq_zero hl]; rfl
    | succ n ih =>
      intro l hl
      match l, hl with
      | x :: l, hl =>
        simp only [ints, List.map_cons, List.replicate_succ, conf, Bool.and_eq_true]
        exact ⟨rfl, ih l (by simpa using hl)⟩
  simpa [skR] using h n l hl
theorem ints_eqc (a b : List Int) : eqc (ints a).toArray.toList (ints b).toArray.toList = decide (a = b) := by
  rw [Bool.eq_iff_iff, eqc_iff, decide_eq_true_iff]
  simp only [ints]
  refine ⟨fun h => ?_, fun h => by rw [h]⟩
  exact (List.map_inj_right (fun a b h => by injection h)).1 h
theorem own_len {w : World} {v : Value} {ws : List WE} (h : WRow w v ws) : ws.length ≤ maxLen := by
  by_cases h0 : 0 < ws.length
  · obtain ⟨_, _, _, _, _, _, _, _, hm⟩ := own_at h.1 (fun c hc => by obtain ⟨e, he, rfl⟩ := List.mem_map.1 hc; exact wcell_size (h.2 e he)) (j := 0) (by rw [List.length_map]; exact h0)
    rw [List.length_map] at hm; exact hm
  · omega
theorem wcell_conf {e : WE} (h : HK e.1) : conf (skR [(32, SK.i .u8), (2, SK.i .i64)]) (wcell e).toList = true := by
  have : skR [(32, SK.i .u8), (2, SK.i .i64)] = skR [(32, SK.i .u8)] ++ [SK.i .i64, SK.i .i64] := rfl
  rw [this]
  simp only [wcell, Array.toList_append]
  have ha : ∀ (l : List SK) (xs : List Value), conf l xs = true → conf (l ++ [SK.i .i64, SK.i .i64]) (xs ++ [Value.int .i64 e.2.1, Value.int .i64 e.2.2]) = true := by
    intro l
    induction l with
    | nil => intro xs hx; cases xs with
      | nil => rfl
      | cons => simp [conf] at hx
    | cons a l ih => intro xs hx; cases xs with
      | nil => simp [conf] at hx
      | cons x xs =>
        simp only [conf, Bool.and_eq_true, List.cons_append] at hx ⊢
        exact ⟨hx.1, ih xs hx.2⟩
  exact ha _ _ h
end Go.Proofs
