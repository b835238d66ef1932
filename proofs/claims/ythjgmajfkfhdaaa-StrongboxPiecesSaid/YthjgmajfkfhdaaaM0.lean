/- Plain: maps whose keys are integers. -/
import Derived.Test.YthjgmajfkfhdaaaW0
set_option linter.unusedSimpArgs false
set_option linter.unusedVariables false
set_option linter.constructorNameAsVariable false
namespace Go.Proofs
open Go.Vc
set_option maxRecDepth 10000

abbrev IE := Int × Value
def MapI (w : World) (r : Nat) (l : List IE) : Prop := ∃ es c, w.heap[r]? = some (.map es c) ∧ es.toList.map (fun e => (e.key, e.val)) = l.map fun p => (Value.int .i64 p.1, p.2)
theorem MapI.keep {S : Nat → Prop} {w w' : World} {r : Nat} {l : List IE} (h : MapI w r l) (k : Keep S w w') (hr : ¬ S r) : MapI w' r l := by
  obtain ⟨es, c, h1, h2⟩ := h; exact ⟨es, c, k.at h1 hr, h2⟩
theorem kOK_int (n : Int) : kOK (skR [(1, .i .i64)]) false (.int .i64 n) = true := by simp [kOK, skR, conf, SK.ok]
theorem MapI.mapE {w : World} {r : Nat} {l : List IE} {es : Array MapEntry} {c : Nat} (h1 : w.heap[r]? = some (.map es c)) (h2 : es.toList.map (fun e => (e.key, e.val)) = l.map fun p => (Value.int .i64 p.1, p.2)) :
    mapE (skR [(1, .i .i64)]) false w r = some (es, c) := by
  unfold Vc.mapE
  rw [h1]
  have hall : es.toList.all (fun e => kOK (skR [(1, .i .i64)]) false e.key) = true := by
    rw [List.all_eq_true]
    intro e he
    have h3 : (e.key, e.val) ∈ es.toList.map (fun e => (e.key, e.val)) := List.mem_map_of_mem he
    rw [h2] at h3
    obtain ⟨p, _, hp⟩ := List.mem_map.1 h3
    have hk : e.key = .int .i64 p.1 := (congrArg Prod.fst hp).symm
    rw [hk, kOK_int]
  simp only [hall, if_true]
def idxM (k : Int) : List IE → Option Nat
  | [] => none
  | p :: l => if k = p.1 then some 0 else (idxM k l).map (· + 1)
theorem fnd_int {k : Int} : ∀ {l : List IE} {es : List MapEntry} (j : Nat), es.map (fun e => (e.key, e.val)) = l.map (fun p => (Value.int .i64 p.1, p.2)) →
    fnd (.int .i64 k) es j = match idxM k l with
      | some i => (l[i]?).map fun p => (j + i, p.2)
      | none => none
  | [], es, j, h => by simp at h; subst h; simp [fnd, idxM]
  | p :: l, [], j, h => by simp at h
  | p :: l, m :: es, j, h => by
    simp only [List.map_cons, List.cons.injEq, Prod.mk.injEq] at h
    obtain ⟨⟨h1, h2⟩, h3⟩ := h
    have ih := fnd_int (k := k) (j + 1) h3
    have h1' : m.key = .int .i64 p.1 := h1
    simp only [fnd, idxM]
    rw [h1']
    by_cases hk : k = p.1
    · rw [hk, if_pos rfl]; simp [h2]
    · have hne : ¬ (Value.int .i64 k = Value.int .i64 p.1) := by intro h; cases h; exact hk rfl
      rw [if_neg hne, ih, if_neg hk]
      cases hq : idxM k l with
      | none => simp
      | some i => simp [Nat.add_assoc, Nat.add_comm 1 i]
theorem idxM_lt {k : Int} : ∀ {l : List IE} {i : Nat}, idxM k l = some i → ∃ p, l[i]? = some p ∧ p.1 = k
  | [], i, h => by simp [idxM] at h
  | p :: l, i, h => by
    simp only [idxM] at h
    split at h
    · rename_i hk; simp at h; subst h; exact ⟨p, by simp, hk.symm⟩
    · cases hq : idxM k l with
      | none => simp [hq] at h
      | some j => simp [hq] at h; subst h; obtain ⟨p', h1, h2⟩ := idxM_lt hq; exact ⟨p', by simpa using h1, h2⟩
/-- The value at a key. -/
def getM (k : Int) (l : List IE) : Option Value := (idxM k l).bind fun i => (l[i]?).map (·.2)
def putM (k : Int) (v : Value) (l : List IE) : List IE := match idxM k l with
  | some i => l.set i (k, v)
  | none => l ++ [(k, v)]
theorem MapI.lkp {w : World} {r : Nat} {l : List IE} (h : MapI w r l) (z : Value) (k : Int) (ok : Bool) :
    lkpR (skR [(1, .i .i64)]) false z ok w (.map (some r)) (.int .i64 k) = some (match getM k l with | some v => packL ok v true | none => packL ok z false) := by
  obtain ⟨es, c, h1, h2⟩ := h
  unfold lkpR
  rw [if_pos (kOK_int k)]
  simp only [MapI.mapE h1 h2, Option.map_some]
  rw [fnd_int 0 h2]
  unfold getM
  cases hq : idxM k l with
  | none => rfl
  | some i => obtain ⟨p, h3, _⟩ := idxM_lt hq; simp [h3]
theorem MapI.put {w : World} {r : Nat} {l : List IE} {K : World → Prop} (h : MapI w r l) (k : Int) (v : Value) (hk : ∀ w', MapI w' r (putM k v l) → Keep (fun i => i = r) w w' → K w') :
    mapUV (skR [(1, .i .i64)]) false (.map (some r)) (.int .i64 k) v w K := by
  obtain ⟨es, c, h1, h2⟩ := h
  refine ⟨kOK_int k, ?_⟩
  rw [MapI.mapE h1 h2, getV_some]
  have hlt := lt_of_heap h1
  refine hk _ ?_ ((Keep.refl _ w).setO _ fun _ => rfl)
  unfold putE
  rw [fnd_int 0 h2]
  unfold putM
  cases hq : idxM k l with
  | none =>
    refine ⟨_, _, heap_setO_eq _ _ _ hlt, ?_⟩
    simp [h2]
  | some i =>
    obtain ⟨p, h3, h4⟩ := idxM_lt hq
    simp only [h3, Option.map_some, Nat.zero_add]
    refine ⟨_, _, heap_setO_eq _ _ _ hlt, ?_⟩
    have hlen : es.toList.length = l.length := by simpa using congrArg List.length h2
    apply List.ext_getElem?
    intro j
    have h5 := congrArg (fun x => x[j]?) h2
    simp only [List.getElem?_map, Array.toList_modify, List.getElem?_modify, List.getElem?_set] at h5 ⊢
    by_cases hij : i = j
    · subst hij
      have hil : i < l.length := (List.getElem?_eq_some_iff.1 h3).1
      have hie : i < es.size := by rw [← Array.length_toList]; omega
      simp [hil, hie]
    · simp only [hij, if_false]
      rw [← h5]
      cases es.toList[j]? <;> simp
theorem MapI.empty (w : World) : MapI (w.alloc (.map #[] 0)) w.heap.size [] := ⟨#[], 0, heap_new _ _ _ rfl, rfl⟩
end Go.Proofs
