/- Plain: what the two books hold. -/
import Derived.Test.YtnbbgmnjjdaopaaVcH
set_option linter.unusedSimpArgs false
set_option linter.unusedVariables false
set_option linter.constructorNameAsVariable false
namespace Go.Proofs.Fees
open Go.Vc

/-- Who waits: the name's cells, the bucket, the height. -/
abbrev WE := Array Value × Int × Int
def HK (k : Array Value) : Prop := conf (skR [(32, .i .u8)]) k.toList = true
noncomputable def keq (a b : Array Value) : Bool := eqc a.toList b.toList
theorem keq_iff {a b : Array Value} : keq a b = true ↔ a = b := by
  unfold keq; rw [eqc_iff]; exact ⟨fun h => Array.ext' h, fun h => by rw [h]⟩

noncomputable def idxW (k : Array Value) : List WE → Option Nat
  | [] => none
  | e :: ws => if keq k e.1 then some 0 else (idxW k ws).map (· + 1)

def encK (e : WE) : Value := .agg e.1
def encV (e : WE) : Value := .agg #[.int .i64 e.2.1, .int .i64 e.2.2]

theorem idxW_lt {k : Array Value} : ∀ {ws : List WE} {i : Nat}, idxW k ws = some i → ∃ e, ws[i]? = some e ∧ e.1 = k
  | [], i, h => by simp [idxW] at h
  | e :: ws, i, h => by
    simp only [idxW] at h
    split at h
    · rename_i hk; simp at h; subst h; exact ⟨e, by simp, (keq_iff.1 hk).symm⟩
    · cases hq : idxW k ws with
      | none => simp [hq] at h
      | some j => simp [hq] at h; subst h; obtain ⟨e', h1, h2⟩ := idxW_lt hq; exact ⟨e', by simpa using h1, h2⟩

theorem fnd_idx {k : Array Value} : ∀ {ws : List WE} {es : List MapEntry} (j : Nat), es.map (fun e => (e.key, e.val)) = ws.map (fun e => (encK e, encV e)) →
    fnd (.agg k) es j = match idxW k ws with
      | some i => (ws[i]?).map fun e => (j + i, encV e)
      | none => none
  | [], es, j, h => by simp at h; subst h; simp [fnd, idxW]
  | e :: ws, [], j, h => by simp at h
  | e :: ws, m :: es, j, h => by
    simp only [List.map_cons, List.cons.injEq, Prod.mk.injEq] at h
    obtain ⟨⟨h1, h2⟩, h3⟩ := h
    have ih := fnd_idx (k := k) (j + 1) h3
    simp only [fnd, h1, idxW, encK]
    by_cases hk : k = e.1
    · have : keq k e.1 = true := keq_iff.2 hk
      have h1' : m.key = .agg e.1 := h1
      rw [hk, h1', if_pos rfl]
      simp [h2, keq_iff]
    · have : keq k e.1 = false := by
        cases hb : keq k e.1 with
        | false => rfl
        | true => exact absurd (keq_iff.1 hb) hk
      rw [this]
      have hne : ¬ (Value.agg k = Value.agg e.1) := by simpa using hk
      have h1' : m.key = .agg e.1 := h1
      rw [h1', if_neg hne, ih]
      cases hq : idxW k ws with
      | none => simp
      | some i => simp [Nat.add_assoc, Nat.add_comm 1 i]

/-- The entries of a map, in the order of their stamps or not: no stamp stands twice, each is one of the past. -/
structure EsIs (es : Array MapEntry) (c : Nat) (ws : List WE) : Prop where
  eq : es.toList.map (fun e => (e.key, e.val)) = ws.map fun e => (encK e, encV e)
  lt : ∀ e ∈ es.toList, e.born < c
  ne : es.toList.Pairwise fun a b => a.born ≠ b.born
theorem EsIs.nil (c : Nat) : EsIs #[] c [] := ⟨rfl, fun e h => by simp at h, List.Pairwise.nil⟩

/-- What the program's map holds. -/
def WaitsAt (w : World) (m : Option Nat) (ws : List WE) : Prop :=
  match m with
  | none => ws = []
  | some r => ∃ es c, w.heap[r]? = some (.map es c) ∧ EsIs es c ws

def HKs (ws : List WE) : Prop := ∀ e ∈ ws, HK e.1

theorem mapE_waits {w : World} {r : Nat} {es : Array MapEntry} {c : Nat} {ws : List WE} (hr : w.heap[r]? = some (.map es c)) (h : EsIs es c ws) (hk : HKs ws) :
    mapE (skR [(32, .i .u8)]) true w r = some (es, c) := by
  have : es.toList.all (fun e => kOK (skR [(32, .i .u8)]) true e.key) = true := by
    rw [List.all_eq_true]
    intro e he
    have h1 : (e.key, e.val) ∈ es.toList.map (fun e => (e.key, e.val)) := List.mem_map.2 ⟨e, he, rfl⟩
    rw [h.eq] at h1
    obtain ⟨x, hx, hxe⟩ := List.mem_map.1 h1
    simp only [Prod.mk.injEq] at hxe
    rw [← hxe.1]
    exact hk x hx
  simp only [mapE, hr, this, if_true]

def zeroV : Value := .agg #[.int .i64 0, .int .i64 0]
theorem lkp_waits {w : World} {m : Option Nat} {ws : List WE} {k : Array Value} (h : WaitsAt w m ws) (hs : HKs ws) (hk : HK k) :
    lkpR (skR [(32, .i .u8)]) true (zvR true [(2, .int .i64 0)]) true w (.map m) (.agg k) =
      some (.tuple (match (idxW k ws).bind (ws[·]?) with | some e => #[encV e, .bool true] | none => #[zeroV, .bool false])) := by
  have hkk : kOK (skR [(32, .i .u8)]) true (.agg k) = true := hk
  have hz : zvR true [(2, .int .i64 0)] = zeroV := rfl
  unfold lkpR
  rw [if_pos hkk, hz]
  cases m with
  | none => cases h; simp [packL, idxW]
  | some r =>
    obtain ⟨es, c, hr, he⟩ := h
    simp only [mapE_waits hr he hs, Option.map_some]
    have := fnd_idx (k := k) 0 he.eq
    rw [this]
    cases hq : idxW k ws with
    | none => simp [packL]
    | some i =>
      obtain ⟨e, h1, _⟩ := idxW_lt hq
      simp [h1, packL]

def addW (k : Array Value) (b h : Int) (ws : List WE) : List WE := ws ++ [(k, b, h)]
noncomputable def delW (k : Array Value) (ws : List WE) : List WE := match idxW k ws with | some i => ws.eraseIdx i | none => ws

theorem put_waits {w : World} {r : Nat} {es : Array MapEntry} {c : Nat} {ws : List WE} {k : Array Value} (hr : w.heap[r]? = some (.map es c)) (h : EsIs es c ws)
    (hn : idxW k ws = none) (b ht : Int) : WaitsAt (w.setO r (putE (.agg k) (.agg #[.int .i64 b, .int .i64 ht]) es c)) (some r) (addW k b ht ws) := by
  have := fnd_idx (k := k) 0 h.eq
  rw [hn] at this
  simp only [putE, this]
  refine ⟨_, _, heap_setO_eq w r _ (lt_of_heap hr), by simp [h.eq, addW, encK, encV], fun e he => ?_, ?_⟩
  · rw [Array.toList_push, List.mem_append] at he
    rcases he with he | he
    · exact Nat.lt_succ_of_lt (h.lt e he)
    · rw [List.mem_singleton.1 he]; exact Nat.lt_succ_self _
  · rw [Array.toList_push, List.pairwise_append]
    refine ⟨h.ne, List.pairwise_singleton _ _, fun a ha b hb => ?_⟩
    rw [List.mem_singleton.1 hb]
    have := h.lt a ha
    show a.born ≠ c
    omega

theorem del_waits {w : World} {r : Nat} {es : Array MapEntry} {c : Nat} {ws : List WE} {k : Array Value} (hr : w.heap[r]? = some (.map es c)) (h : EsIs es c ws) :
    WaitsAt (w.setO r (delE (.agg k) es c)) (some r) (delW k ws) := by
  have := fnd_idx (k := k) 0 h.eq
  unfold delE delW
  rw [this]
  cases hq : idxW k ws with
  | none => exact ⟨_, _, heap_setO_eq w r _ (lt_of_heap hr), h⟩
  | some i =>
    obtain ⟨e, h1, _⟩ := idxW_lt hq
    simp only [h1, Option.map_some, Nat.zero_add]
    have hlen : i < es.size := by
      have h2 := congrArg List.length h.eq
      simp at h2
      rw [h2]; exact (List.getElem?_eq_some_iff.1 h1).1
    have e1 : (es.eraseIdxIfInBounds i).toList = es.toList.eraseIdx i := by
      simp [Array.eraseIdxIfInBounds, hlen]
    have emap : ∀ {α β : Type} (f : α → β) (l : List α) (i : Nat), (l.eraseIdx i).map f = (l.map f).eraseIdx i := by
      intro α β f l
      induction l with
      | nil => intro i; simp
      | cons a l ih => intro i; cases i <;> simp [ih]
    refine ⟨_, _, heap_setO_eq w r _ (lt_of_heap hr), ?_, fun e he => ?_, ?_⟩
    · rw [e1, emap, emap, h.eq]
    · rw [e1] at he
      exact h.lt e (List.mem_of_mem_eraseIdx he)
    · rw [e1]
      exact h.ne.sublist (List.eraseIdx_sublist _ _)

def ints (cnt : List Int) : List Value := cnt.map (.int .i64)
def bookC (cnt : List Int) (m : Option Nat) : Array Value := (ints cnt ++ [Value.map m]).toArray
theorem size_bookC (cnt : List Int) (m : Option Nat) : (bookC cnt m).size = cnt.length + 1 := by simp [bookC, ints]
theorem bookC_int {cnt : List Int} {m : Option Nat} {i : Nat} (h : i < cnt.length) : (bookC cnt m)[i]? = some (.int .i64 (cnt.getD i 0)) := by
  simp [bookC, ints, List.getElem?_append, h]
theorem bookC_map {cnt : List Int} {m : Option Nat} {n : Nat} (h : n = cnt.length) : (bookC cnt m)[n]? = some (.map m) := by
  subst h; simp [bookC, ints]
theorem bookC_set {cnt : List Int} {m : Option Nat} {i : Nat} (h : i < cnt.length) (x : Int) : (bookC cnt m).setIfInBounds i (.int .i64 x) = bookC (cnt.set i x) m := by
  apply Array.ext'
  simp [bookC, ints, h, List.set_append, List.map_set]
theorem bookC_setm {cnt : List Int} {m : Option Nat} {n : Nat} (h : n = cnt.length) (r : Option Nat) : (bookC cnt m).setIfInBounds n (.map r) = bookC cnt r := by
  subst h
  apply Array.ext'
  simp [bookC, ints, List.set_append]

/-- The program's book. -/
def BookAt (w : World) (b : Nat) (cnt : List Int) (m : Option Nat) (ws : List WE) : Prop :=
  w.heap[b]? = some (.cells (bookC cnt m) 67 (0, 0)) ∧ cnt.length = 312 ∧ WaitsAt w m ws ∧ HKs ws
end Go.Proofs.Fees
