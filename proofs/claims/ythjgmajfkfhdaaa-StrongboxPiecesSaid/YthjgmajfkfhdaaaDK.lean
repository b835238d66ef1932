/- What the acts of an argument hold. -/
import Derived.Test.YthjgmajfkfhdaaaDO
import Derived.Test.YthjgmajfkfhdaaaVcR
set_option linter.unusedSimpArgs false
set_option linter.unusedVariables false
set_option linter.constructorNameAsVariable false
namespace Go.Proofs
open Go.Vc
set_option maxRecDepth 10000

theorem args_1 {args : Array Value} (h : args.size = 1) : ∃ v, args = #[v] := by
  obtain ⟨l⟩ := args
  match l, h with
  | [v], _ => exact ⟨v, rfl⟩
theorem args_2 {args : Array Value} (h : args.size = 2) : ∃ v u, args = #[v, u] := by
  obtain ⟨l⟩ := args
  match l, h with
  | [v, u], _ => exact ⟨v, u, rfl⟩
theorem args_3 {args : Array Value} (h : args.size = 3) : ∃ v u x, args = #[v, u, x] := by
  obtain ⟨l⟩ := args
  match l, h with
  | [v, u, x], _ => exact ⟨v, u, x, rfl⟩

theorem flat_ones {k : IntKind} : ∀ {xs : List (Array Value)} {bs : List Int}, bs.length = xs.length → (∀ i (h : i < xs.length) (h' : i < bs.length), xs[i] = #[Value.int k bs[i]]) → xs.flatMap Array.toList = bs.map (.int k)
  | [], [], _, _ => rfl
  | [], _ :: _, h, _ => by simp at h
  | _ :: _, [], h, _ => by simp at h
  | x :: xs, b :: bs, h, hx => by
    have h0 := hx 0 (by simp) (by simp)
    simp only [List.getElem_cons_zero] at h0
    have ih := flat_ones (k := k) (xs := xs) (bs := bs) (by simpa using h) fun i h1 h2 => by
      have := hx (i + 1) (by simpa using h1) (by simpa using h2)
      simpa using this
    rw [List.flatMap_cons, h0, ih]; rfl
/-- A slice of integers. -/
theorem ints_of {k : IntKind} {w : World} {q : Option Addr} {n c : Nat} (h : Lies w (.sl (.cons (.int k) .nil)) (.slice q n c)) : n ≤ maxLen ∧ ∃ bs : List Int, bs.length = n ∧ rdS w 1 (.slice q n c) = some (bs.map (.int k)).toArray ∧ ∀ b ∈ bs, k.min ≤ b ∧ b ≤ k.max := by
  simp only [Lies] at h
  obtain ⟨q', n', c', xs, h1, h2, h3, h4, h5, h6, h7⟩ := h
  cases h1
  have hx : ∀ x ∈ xs, ∃ b : Int, x = #[Value.int k b] ∧ k.min ≤ b ∧ b ≤ k.max := by
    intro x hx
    have h := h7 x hx
    cases hl : x.toList with
    | nil => rw [hl] at h; simp [LiesAll] at h
    | cons y l =>
      rw [hl] at h
      simp only [LiesAll, Lies] at h
      obtain ⟨⟨b, rfl, hb⟩, rfl⟩ := h
      exact ⟨b, Array.ext' hl, wf_int hb⟩
  obtain ⟨bs, hl, hbs⟩ := list_choose xs hx
  refine ⟨Nat.le_trans h2 h3, bs, by omega, ?_, ?_⟩
  · rw [show (1 : Nat) = Tys.len (.cons (.int k) .nil) from rfl, h5, flat_ones hl fun i h h' => (hbs i h h').1]
  · intro b hb
    obtain ⟨i, hi, rfl⟩ := List.getElem_of_mem hb
    exact (hbs i (by omega) hi).2
theorem slice_of {w : World} {e : Tys} {v : Value} (h : Lies w (.sl e) v) : ∃ q n c, v = .slice q n c := by
  simp only [Lies] at h
  obtain ⟨q, n, c, _, rfl, _⟩ := h
  exact ⟨q, n, c, rfl⟩
/-- A slice of bytes. -/
theorem bytes_of {w : World} {v : Value} (h : Lies w (.sl (.cons (.int .u8) .nil)) v) : ∃ bs, Rd w v bs ∧ byt bs := by
  have h0 := h
  simp only [Lies] at h
  obtain ⟨q, n, c, _, rfl, h2, _⟩ := h
  obtain ⟨hm, bs, hl, hr, hb⟩ := ints_of h0
  subst hl
  refine ⟨bs, ⟨⟨q, c, rfl, h2⟩, hm, hr⟩, fun b hx => ?_⟩
  have h1 : IntKind.u8.min = 0 := by decide
  have h2 : IntKind.u8.max = 255 := by decide
  have := hb b hx
  rw [h1, h2] at this; exact this
end Go.Proofs
