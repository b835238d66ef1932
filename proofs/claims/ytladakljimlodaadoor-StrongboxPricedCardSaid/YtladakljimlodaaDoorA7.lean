/- Amounts: slices of int64 numbers, as they are read. -/
import Derived.Test.YtladakljimlodaaDoorIr
import Derived.Test.YtladakljimlodaaDoorVcJ
import Derived.Test.YtladakljimlodaaDoorVcR
set_option linter.unusedSimpArgs false
set_option linter.unusedVariables false
set_option linter.constructorNameAsVariable false
namespace Go.Proofs
open Go.Vc
set_option maxRecDepth 10000

def lv (bs : List Int) : List Value := bs.map (.int .i64)
/-- A slice that reads as numbers. -/
structure RI (w : World) (v : Value) (bs : List Int) : Prop where
  is : ∃ q c, v = .slice q bs.length c ∧ bs.length ≤ c
  mx : bs.length ≤ maxLen
  rd : rdS w 1 v = some (lv bs).toArray
theorem RI.keep {S : Nat → Prop} {w w' : World} {v : Value} {bs : List Int} (h : RI w v bs) (k : Keep S w w') (hS : ∀ q n c, v = .slice (some q) n c → ¬ S q.block) : RI w' v bs := by
  obtain ⟨⟨q, c, rfl, hc⟩, hm, hr⟩ := h
  refine ⟨⟨q, c, rfl, hc⟩, hm, ?_⟩
  simp only [rdS] at hr ⊢
  split
  · rename_i h0; rw [if_pos h0] at hr; exact hr
  · rename_i h0
    rw [if_neg h0] at hr
    split at hr
    · rename_i b o
      rw [rdN_heap] at hr ⊢
      cases hb : w.heap[b]? with
      | none => rw [hb] at hr; cases hr
      | some x =>
        have hk := k.at hb (hS _ _ _ rfl)
        simp only [rdN_heap, hk]
        rw [hb] at hr; exact hr
    · cases hr
theorem RI.ext {w w' : World} {v : Value} {bs : List Int} (h : RI w v bs) (k : Ext w w') : RI w' v bs := h.keep k fun _ _ _ _ h => h
theorem RI.len {w : World} {v : Value} {bs : List Int} (h : RI w v bs) : lenR v = some (.int .i64 bs.length) := by
  obtain ⟨⟨q, c, rfl, _⟩, _, _⟩ := h; rfl
theorem RI.one {w : World} {v : Value} {bs : List Int} (h : RI w v bs) : v.oneCell' = true := by
  obtain ⟨⟨q, c, rfl, _⟩, _, _⟩ := h; rfl
theorem RI.at {w : World} {v : Value} {bs : List Int} (h : RI w v bs) {i : Nat} (hi : i < bs.length) :
    ∃ b o c, v = .slice (some ⟨b, o, none⟩) bs.length c ∧ cellO w.heap[b]? (o + i) = some (.int .i64 bs[i]) := by
  obtain ⟨⟨q, c, rfl, _⟩, hm, hr⟩ := h
  simp only [rdS] at hr
  rw [if_neg (by omega)] at hr
  split at hr
  · rename_i b o
    refine ⟨b, o, c, rfl, ?_⟩
    rw [rdN_heap] at hr
    cases hb : w.heap[b]? with
    | none => rw [hb] at hr; cases hr
    | some x =>
      rw [hb] at hr
      cases x with
      | cells d t fr =>
        simp only [rdO] at hr
        split at hr
        · rename_i hle
          simp only [Option.some.injEq] at hr
          rw [cellO_some]
          have h1 : (d.extract o (o + bs.length * 1))[i]? = some (.int .i64 bs[i]) := by rw [hr]; simp [lv, hi]
          rw [Array.getElem?_extract] at h1
          split at h1
          · exact h1
          · cases h1
        · cases hr
      | _ => cases hr
  · cases hr
/-- A part of the numbers. -/
theorem RI.cut {w : World} {q : Option Addr} {n c : Nat} {bs : List Int} (h : RI w (.slice q n c) bs) {l j : Nat} (hl : l ≤ j) (hj : j ≤ n) : RI w (.slice (advA 1 q c l) (j - l) (c - l)) ((bs.take j).drop l) := by
  obtain ⟨⟨q', c', e, hc⟩, hm, hr⟩ := h
  cases e
  have hlen : ((bs.take j).drop l).length = j - l := by rw [List.length_drop, List.length_take]; omega
  refine ⟨⟨_, _, by rw [hlen], by omega⟩, by omega, ?_⟩
  simp only [rdS] at hr ⊢
  split
  · rename_i h0
    have : (bs.take j).drop l = [] := List.eq_nil_of_length_eq_zero (by omega)
    rw [this]; rfl
  · rename_i h0
    rw [if_neg (by omega)] at hr
    split at hr
    · rename_i b o
      rw [rdN_heap] at hr
      have hadv : advA 1 (some ⟨b, o, none⟩) c l = some ⟨b, o + l, none⟩ := by
        unfold advA
        rw [if_neg (by omega)]
        simp only [Option.map_some, Addr.add, Nat.mul_one]
        split
        · rename_i h0; subst h0; rfl
        · rfl
      rw [hadv]
      simp only [rdN_heap]
      cases hb : w.heap[b]? with
      | none => rw [hb] at hr; cases hr
      | some x =>
        rw [hb] at hr
        cases x with
        | cells d t fr =>
          simp only [rdO] at hr ⊢
          split at hr
          · rw [if_pos (by omega)]
            simp only [Option.some.injEq] at hr ⊢
            apply Array.ext'
            have h3 := congrArg (fun x => (x.toList.take j).drop l) hr
            simp only [Array.toList_extract, List.extract_eq_take_drop, List.take_take, List.drop_take, List.drop_drop] at h3 ⊢
            rw [show o + l + (j - l) * 1 - (o + l) = j - l by omega]
            rw [show min j (o + bs.length * 1 - o) - l = j - l by omega] at h3
            rw [h3]; simp [lv, List.map_take, List.map_drop, List.drop_take]
          · cases hr
        | _ => cases hr
    · cases hr
theorem RI.nil (w : World) : RI w (.slice none 0 0) [] := ⟨⟨none, 0, rfl, Nat.le_refl _⟩, Nat.zero_le _, rfl⟩

theorem args_1 {args : Array Value} (h : args.size = 1) : ∃ v, args = #[v] := by
  obtain ⟨l⟩ := args
  match l, h with
  | [v], _ => exact ⟨v, rfl⟩
theorem args_2 {args : Array Value} (h : args.size = 2) : ∃ v u, args = #[v, u] := by
  obtain ⟨l⟩ := args
  match l, h with
  | [v, u], _ => exact ⟨v, u, rfl⟩
theorem args_3 {args : Array Value} (h : args.size = 3) : ∃ v u x, args = #[v, u, x] := by
  obtain ⟨l⟩ := args
  match l, h with
  | [v, u, x], _ => exact ⟨v, u, x, rfl⟩

theorem flat_ones {k : IntKind} : ∀ {xs : List (Array Value)} {bs : List Int}, bs.length = xs.length → (∀ i (h : i < xs.length) (h' : i < bs.length), xs[i] = #[Value.int k bs[i]]) → xs.flatMap Array.toList = bs.map (.int k)
  | [], [], _, _ => rfl
  | [], _ :: _, h, _ => by simp at h
  | _ :: _, [], h, _ => by simp at h
  | x :: xs, b :: bs, h, hx => by
    have h0 := hx 0 (by simp) (by simp)
    simp only [List.getElem_cons_zero] at h0
    have ih := flat_ones (k := k) (xs := xs) (bs := bs) (by simpa using h) fun i h1 h2 => by
      have := hx (i + 1) (by simpa using h1) (by simpa using h2)
      simpa using this
    rw [List.flatMap_cons, h0, ih]; rfl
/-- A slice of integers. -/
theorem ints_of {k : IntKind} {w : World} {q : Option Addr} {n c : Nat} (h : Lies w (.sl (.cons (.int k) .nil)) (.slice q n c)) : n ≤ maxLen ∧ ∃ bs : List Int, bs.length = n ∧ rdS w 1 (.slice q n c) = some (bs.map (.int k)).toArray ∧ ∀ b ∈ bs, k.min ≤ b ∧ b ≤ k.max := by
  simp only [Lies] at h
  obtain ⟨q', n', c', xs, h1, h2, h3, h4, h5, h6, h7⟩ := h
  cases h1
  have hx : ∀ x ∈ xs, ∃ b : Int, x = #[Value.int k b] ∧ k.min ≤ b ∧ b ≤ k.max := by
    intro x hx
    have h := h7 x hx
    cases hl : x.toList with
    | nil => rw [hl] at h; simp [LiesAll] at h
    | cons y l =>
      rw [hl] at h
      simp only [LiesAll, Lies] at h
      obtain ⟨⟨b, rfl, hb⟩, rfl⟩ := h
      exact ⟨b, Array.ext' hl, wf_int hb⟩
  obtain ⟨bs, hl, hbs⟩ := list_choose xs hx
  refine ⟨Nat.le_trans h2 h3, bs, by omega, ?_, ?_⟩
  · rw [show (1 : Nat) = Tys.len (.cons (.int k) .nil) from rfl, h5, flat_ones hl fun i h h' => (hbs i h h').1]
  · intro b hb
    obtain ⟨i, hi, rfl⟩ := List.getElem_of_mem hb
    exact (hbs i (by omega) hi).2
theorem slice_of {w : World} {e : Tys} {v : Value} (h : Lies w (.sl e) v) : ∃ q n c, v = .slice q n c := by
  simp only [Lies] at h
  obtain ⟨q, n, c, _, rfl, _⟩ := h
  exact ⟨q, n, c, rfl⟩
/-- A slice of numbers. -/
theorem nums_of {w : World} {v : Value} (h : Lies w (.sl (.cons (.int .i64) .nil)) v) : ∃ q n c bs, v = .slice q n c ∧ bs.length = n ∧ RI w v bs := by
  have h0 := h
  simp only [Lies] at h
  obtain ⟨q, n, c, _, rfl, h2, _⟩ := h
  obtain ⟨hm, bs, hl, hr, hb⟩ := ints_of h0
  subst hl
  exact ⟨q, _, c, bs, rfl, rfl, ⟨⟨q, c, rfl, h2⟩, hm, hr⟩⟩
end Go.Proofs
