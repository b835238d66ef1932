/- What the acts of an argument hold. -/
import Derived.Test.YtnbbgmnjjdaopaaFD
set_option linter.unusedSimpArgs false
set_option linter.unusedVariables false
set_option linter.constructorNameAsVariable false
namespace Go.Proofs
open Go.Vc Go.Proofs.Fees
set_option maxRecDepth 10000

theorem args_1 {args : Array Value} (h : args.size = 1) : ∃ v, args = #[v] := by
  obtain ⟨l⟩ := args
  match l, h with
  | [v], _ => exact ⟨v, rfl⟩
theorem args_2 {args : Array Value} (h : args.size = 2) : ∃ v u, args = #[v, u] := by
  obtain ⟨l⟩ := args
  match l, h with
  | [v, u], _ => exact ⟨v, u, rfl⟩
theorem args_3 {args : Array Value} (h : args.size = 3) : ∃ v u x, args = #[v, u, x] := by
  obtain ⟨l⟩ := args
  match l, h with
  | [v, u, x], _ => exact ⟨v, u, x, rfl⟩

def tyAct : Tys := .cons (.int .i64) (.cons (.int .u8) (.cons (.int .i64) (.cons (.int .i64) (.cons (.sl (.cons (.int .u8) .nil)) .nil))))
theorem flat_ones {k : IntKind} : ∀ {xs : List (Array Value)} {bs : List Int}, bs.length = xs.length → (∀ i (h : i < xs.length) (h' : i < bs.length), xs[i] = #[Value.int k bs[i]]) → xs.flatMap Array.toList = bs.map (.int k)
  | [], [], _, _ => rfl
  | [], _ :: _, h, _ => by simp at h
  | _ :: _, [], h, _ => by simp at h
  | x :: xs, b :: bs, h, hx => by
    have h0 := hx 0 (by simp) (by simp)
    simp only [List.getElem_cons_zero] at h0
    have ih := flat_ones (k := k) (xs := xs) (bs := bs) (by simpa using h) fun i h1 h2 => by
      have := hx (i + 1) (by simpa using h1) (by simpa using h2)
      simpa using this
    rw [List.flatMap_cons, h0, ih]; rfl
/-- A slice of integers. -/
theorem ints_of {k : IntKind} {w : World} {q : Option Addr} {n c : Nat} (h : Lies w (.sl (.cons (.int k) .nil)) (.slice q n c)) : n ≤ maxLen ∧ ∃ bs : List Int, bs.length = n ∧ rdS w 1 (.slice q n c) = some (bs.map (.int k)).toArray ∧ ∀ b ∈ bs, k.min ≤ b ∧ b ≤ k.max := by
  simp only [Lies] at h
  obtain ⟨q', n', c', xs, h1, h2, h3, h4, h5, h6, h7⟩ := h
  cases h1
  have hx : ∀ x ∈ xs, ∃ b : Int, x = #[Value.int k b] ∧ k.min ≤ b ∧ b ≤ k.max := by
    intro x hx
    have h := h7 x hx
    cases hl : x.toList with
    | nil => rw [hl] at h; simp [LiesAll] at h
    | cons y l =>
      rw [hl] at h
      simp only [LiesAll, Lies] at h
      obtain ⟨⟨b, rfl, hb⟩, rfl⟩ := h
      exact ⟨b, Array.ext' hl, wf_int hb⟩
  obtain ⟨bs, hl, hbs⟩ := list_choose xs hx
  refine ⟨Nat.le_trans h2 h3, bs, by omega, ?_, ?_⟩
  · rw [show (1 : Nat) = Tys.len (.cons (.int k) .nil) from rfl, h5, flat_ones hl fun i h h' => (hbs i h h').1]
  · intro b hb
    obtain ⟨i, hi, rfl⟩ := List.getElem_of_mem hb
    exact (hbs i (by omega) hi).2
theorem slice_of {w : World} {e : Tys} {v : Value} (h : Lies w (.sl e) v) : ∃ q n c, v = .slice q n c := by
  simp only [Lies] at h
  obtain ⟨q, n, c, _, rfl, _⟩ := h
  exact ⟨q, n, c, rfl⟩
theorem ints2_of {w : World} {k : IntKind} {cs : Array Value} (h : LiesAll w (.cons (.int k) (.cons (.int k) .nil)) cs.toList) : ∃ a b, cs = #[.int k a, .int k b] := by
  obtain ⟨l⟩ := cs
  match l, h with
  | [v, u], h =>
    simp only [LiesAll, Lies] at h
    obtain ⟨⟨a, rfl, _⟩, ⟨b, rfl, _⟩, _⟩ := h
    exact ⟨a, b, rfl⟩
  | [], h => simp [LiesAll] at h
  | [_], h => simp [LiesAll] at h
  | _ :: _ :: _ :: _, h => simp [LiesAll] at h
theorem act_of {w : World} {x : Array Value} (h : LiesAll w tyAct x.toList) : ActIs w x := by
  obtain ⟨l⟩ := x
  simp only [tyAct] at h
  match l, h with
  | [v0, v1, v2, v3, v4], h =>
    simp only [LiesAll] at h
    obtain ⟨h0, h1, h2, h3, h4, _⟩ := h
    have h4' := h4
    simp only [Lies] at h0 h1 h2 h3 h4'
    obtain ⟨a0, rfl, _⟩ := h0
    obtain ⟨a1, rfl, _⟩ := h1
    obtain ⟨a2, rfl, _⟩ := h2
    obtain ⟨a3, rfl, _⟩ := h3
    obtain ⟨q, n, c, _, rfl, _⟩ := h4'
    obtain ⟨hm, bs, hl, hr, _⟩ := ints_of h4
    exact ⟨a0, a1, a2, a3, q, n, c, bs, rfl, hl, hr, hm⟩
  | [], h => simp [LiesAll] at h
  | [_], h => simp [LiesAll] at h
  | [_, _], h => simp [LiesAll] at h
  | [_, _, _], h => simp [LiesAll] at h
  | [_, _, _, _], h => simp [LiesAll] at h
  | _ :: _ :: _ :: _ :: _ :: _ :: _, h => simp [LiesAll] at h
theorem acts_of {w : World} {v : Value} (h : Lies w (.sl tyAct) v) : ∃ q n c xs, v = .slice q n c ∧ ActsAt w q n c xs := by
  simp only [Lies] at h
  obtain ⟨q, n, c, xs, rfl, h2, h3, h4, h5, h6, h7⟩ := h
  exact ⟨q, n, c, xs, rfl, h4, Nat.le_trans h2 h3, h5, fun x hx => act_of (h7 x hx)⟩
end Go.Proofs
