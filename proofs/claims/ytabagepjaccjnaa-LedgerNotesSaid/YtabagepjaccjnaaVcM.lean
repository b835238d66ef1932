/- Ranges over a map: what the model does, whichever entry comes. -/
import Derived.Test.YtabagepjaccjnaaVcJ
import Derived.Maps.RangeRun
set_option linter.unusedSimpArgs false
set_option linter.unusedVariables false
set_option linter.constructorNameAsVariable false
namespace Go.Vc
open Go
variable {P : Program}

/-- An iterator over a map whose entries are those of the loop's beginning: what is left to come. -/
structure ItAt (w : World) (it r : Nat) (es : Array MapEntry) (c : Nat) (left : List MapEntry) : Prop where
  map : w.heap[r]? = some (.map es c)
  old : ∀ e ∈ es.toList, e.born < c
  iter : ∃ seen, w.heap[it]? = some (.mapIter (some r) c seen c) ∧ left = es.toList.filter fun e => !seen.contains e.born
theorem ItAt.ne {w : World} {it r c : Nat} {es : Array MapEntry} {left : List MapEntry} (h : ItAt w it r es c left) : it ≠ r := by
  rintro rfl
  obtain ⟨seen, h1, _⟩ := h.iter
  rw [h.map] at h1; cases h1
theorem ItAt.lt {w : World} {it r c : Nat} {es : Array MapEntry} {left : List MapEntry} (h : ItAt w it r es c left) : it < w.heap.size := by
  obtain ⟨seen, h1, _⟩ := h.iter
  exact (Array.getElem?_eq_some_iff.1 h1).1
theorem ItAt.keep {S : Nat → Prop} {w w' : World} {it r c : Nat} {es : Array MapEntry} {left : List MapEntry} (h : ItAt w it r es c left) (k : Keep S w w') (hi : ¬ S it) (hr : ¬ S r) : ItAt w' it r es c left := by
  obtain ⟨seen, h1, h2⟩ := h.iter
  exact ⟨k.at h.map hr, h.old, seen, k.at h1 hi, h2⟩
/-- The entry that came last. -/
structure CameAt (w : World) (it r : Nat) (es : Array MapEntry) (c : Nat) (e : MapEntry) : Prop where
  map : w.heap[r]? = some (.map es c)
  mem : e ∈ es.toList
  iter : ∃ seen : Array Nat, w.heap[it]? = some (.mapIter (some r) c (seen.push e.born) c)
theorem CameAt.keep {S : Nat → Prop} {w w' : World} {it r c : Nat} {es : Array MapEntry} {e : MapEntry} (h : CameAt w it r es c e) (k : Keep S w w') (hi : ¬ S it) (hr : ¬ S r) : CameAt w' it r es c e := by
  obtain ⟨seen, h1⟩ := h.iter
  exact ⟨k.at h.map hr, h.mem, seen, k.at h1 hi⟩
theorem entV_of {w : World} {it r c : Nat} {es : Array MapEntry} {e : MapEntry} (h : CameAt w it r es c e) (hn : es.toList.Pairwise fun a b => a.born ≠ b.born) {K : Value → World → Prop} (hk : K (.tuple #[e.key, e.val]) w) :
    entV P (.pointer (some ⟨it, 0, none⟩)) w K := by
  obtain ⟨seen, h1⟩ := h.iter
  exact ⟨_, _, run_entry_at w it r c seen es c e h1 h.map h.mem (List.pairwise_map.2 hn), hk⟩
theorem rngV_map {t k e : TypeId} (ht : P.underlying t = some (.map k e)) {w : World} {r : Nat} {es : Array MapEntry} {c : Nat} (hr : w.heap[r]? = some (.map es c)) (old : ∀ e ∈ es.toList, e.born < c) {K : Value → World → Prop}
    (h : ∀ w', Ext w w' → ItAt w' w.heap.size r es c es.toList → w'.heap.size = w.heap.size + 1 → K (.pointer (some ⟨w.heap.size, 0, none⟩)) w') : rngV P t (.map (some r)) w K := by
  refine ⟨_, _, run_range_map w t k e r es c ht hr, ?_⟩
  have hE : Ext w (w.alloc (.mapIter (some r) c #[] c)) := (Keep.refl _ w).alloc _
  refine h _ hE ⟨hE.at hr (fun h => h), old, #[], heap_alloc_new w _, ?_⟩ ?_
  · symm; rw [List.filter_eq_self]; intro a _; simp
  · exact size_alloc _ _
theorem rngV_nil {t k e : TypeId} (ht : P.underlying t = some (.map k e)) {w : World} {K : Value → World → Prop}
    (h : K (.pointer (some ⟨w.heap.size, 0, none⟩)) (w.alloc (.mapIter none 0 #[] 0))) : rngV P t (.map none) w K := ⟨_, _, run_range_nilMap w t k e ht, h⟩
theorem nxtV_nil {ty : TypeId} {w : World} {it s c : Nat} {seen : Array Nat} (hi : w.heap[it]? = some (.mapIter none s seen c)) {K : Value → World → Prop} (h : K (.tuple #[.bool false]) w) : nxtV P false ty (.pointer (some ⟨it, 0, none⟩)) w K := by
  refine ⟨_, _, ?_, h⟩
  simp [Instr.next, getObj, Sem.run, hi, Result.andThen]
theorem nxtV_map {ty : TypeId} {w : World} {it r c : Nat} {es : Array MapEntry} {left : List MapEntry} (h : ItAt w it r es c left) {K : Value → World → Prop} (hend : left = [] → K (.tuple #[.bool false]) w)
    (hstep : ∀ e ∈ left, ∀ w', Keep (fun i => i = it) w w' → w'.heap.size = w.heap.size → CameAt w' it r es c e → ItAt w' it r es c (left.filter fun x => !(x.born == e.born)) → K (.tuple #[.bool true, e.key, e.val]) w') :
    nxtV P false ty (.pointer (some ⟨it, 0, none⟩)) w K := by
  obtain ⟨seen, h1, h2⟩ := h.iter
  have hL : (leftOf es seen).toList = left := by rw [h2]; simp [leftOf]
  rcases run_next_at (P := P) w ty it r c c seen es c h1 h.map h.old (Nat.le_refl _) with ⟨h3, h4⟩ | ⟨e, he, w1, hw1, h4⟩
  · refine ⟨_, _, h4, hend ?_⟩
    rw [← hL]
    exact List.eq_nil_of_length_eq_zero (by rw [Array.length_toList]; exact h3)
  · rw [hL] at he
    refine ⟨_, _, h4, ?_⟩
    have k1 : Keep (fun i => i = it) w w1 := by
      rcases hw1 with rfl | rfl
      · exact Keep.refl _ _
      · exact (Keep.refl _ w).drew
    have hs : w1.heap.size = w.heap.size := by rcases hw1 with rfl | rfl <;> rfl
    have k2 : Keep (fun i => i = it) w (w1.setO it (.mapIter (some r) c (seen.push e.born) c)) := k1.setO _ fun _ => rfl
    have hm : e ∈ es.toList := by rw [h2] at he; exact (List.mem_filter.1 he).1
    have hi := heap_setO_eq w1 it (.mapIter (some r) c (seen.push e.born) c) (by rw [hs]; exact h.lt)
    refine hstep e he _ k2 (by simp [ChangeMaps.setBlock, hs]) ⟨k2.at h.map (fun e => h.ne e.symm), hm, seen, hi⟩ ⟨k2.at h.map (fun e => h.ne e.symm), h.old, seen.push e.born, hi, ?_⟩
    rw [h2, List.filter_filter]
    congr 1
    funext x
    simp only [Array.contains_push]
    cases seen.contains x.born <;> cases hb : (x.born == e.born) <;> simp
/-- What comes when one has come is less. -/
theorem left_lt {left : List MapEntry} {e : MapEntry} (he : e ∈ left) : (left.filter fun x => !(x.born == e.born)).length < left.length := by
  rw [List.length_filter_lt_length_iff_exists]
  exact ⟨e, he, by simp⟩
end Go.Vc
