/- Plain: what was written is read again. -/
import Derived.Test.YthjijgmhicplaaaWB
set_option linter.unusedSimpArgs false
set_option linter.unusedVariables false
set_option linter.constructorNameAsVariable false
namespace Go.Proofs
open Go.Vc
set_option maxRecDepth 10000

theorem num_enc (k : Nat) (x : Int) (rest : List Int) (h0 : 0 ≤ x) (h1 : x < 256 ^ k) : numR k (lowF k x ++ rest) = .ok (x, rest) := by
  have hl := lowF_len k x
  unfold numR
  rw [if_pos (by rw [List.length_append]; omega), List.take_left' hl, List.drop_left' hl, valF_lowF k x h0 h1]
theorem sz_enc (n : Int) (rest : List Int) (h0 : 0 ≤ n) (h1 : n < 18446744073709551616) : szR (sizeF n ++ rest) = if 33554432 < n then .error 2 else .ok (n, rest) := by
  unfold sizeF
  by_cases a1 : n < 253
  · rw [if_pos a1, if_neg (by omega)]
    simp only [List.cons_append, List.nil_append, szR, if_pos a1]
  rw [if_neg a1]
  have gen : ∀ (f : Int) (k : Nat), f = 253 ∧ k = 2 ∨ f = 254 ∧ k = 4 ∨ f = 255 ∧ k = 8 → wideF n = k → n < 256 ^ k → szR (f :: lowF k n ++ rest) = if 33554432 < n then .error 2 else .ok (n, rest) := by
    intro f k hf hw hlt
    have hk : szK f = k := by rcases hf with ⟨rfl, rfl⟩ | ⟨rfl, rfl⟩ | ⟨rfl, rfl⟩ <;> rfl
    have hl := lowF_len k n
    have hn : ¬ f < 253 := by omega
    have ht : ((lowF k n ++ rest).take k) = lowF k n := List.take_left' hl
    have hd : ((lowF k n ++ rest).drop k) = rest := List.drop_left' hl
    have hlen : ¬ (lowF k n ++ rest).length < k := by rw [List.length_append]; omega
    simp only [List.cons_append, szR, if_neg hn, hk, if_neg hlen, ht, hd, valF_lowF k n h0 hlt, hw, ne_eq, not_true_eq_false, if_false]
  by_cases a2 : n < 65536
  · rw [if_pos a2]
    exact gen 253 2 (.inl ⟨rfl, rfl⟩) (by unfold wideF; rw [if_neg a1, if_pos a2]) (by omega)
  rw [if_neg a2]
  by_cases a3 : n < 4294967296
  · rw [if_pos a3]
    exact gen 254 4 (.inr (.inl ⟨rfl, rfl⟩)) (by unfold wideF; rw [if_neg a1, if_neg a2, if_pos a3]) (by omega)
  · rw [if_neg a3]
    exact gen 255 8 (.inr (.inr ⟨rfl, rfl⟩)) (by unfold wideF; rw [if_neg a1, if_neg a2, if_neg a3]) (by omega)
theorem raw_enc (b rest : List Int) : rawR b.length (b ++ rest) = .ok (b, rest) := by
  unfold rawR
  rw [Int.toNat_natCast, if_pos (by rw [List.length_append]; omega), List.take_left' rfl, List.drop_left' rfl]
theorem byt_enc (b rest : List Int) (h : b.length ≤ 300) : bytR 300 (sizeF b.length ++ b ++ rest) = .ok (b, rest) := by
  unfold bytR
  rw [List.append_assoc, sz_enc _ _ (by omega) (by omega), if_neg (by omega)]
  simp only
  rw [if_neg (by omega), raw_enc]

/-- Acts, with what they say. -/
abbrev YE := Int × Int × List Int
structure ActsY (w : World) (q : Option Addr) (n c : Nat) (xs : List (Array Value)) (ys : List YE) : Prop where
  acts : ActsAt w q n c xs
  len : ys.length = n
  is : ∀ i (h : i < xs.length) (h' : i < ys.length), ActAt w xs[i] ys[i].1 ys[i].2.1 ys[i].2.2
theorem list_choose {α β : Type} {p : α → β → Prop} : ∀ (l : List α), (∀ x ∈ l, ∃ y, p x y) → ∃ ys : List β, ys.length = l.length ∧ ∀ i (h : i < l.length) (h' : i < ys.length), p l[i] ys[i]
  | [], _ => ⟨[], rfl, fun i h => by simp at h⟩
  | x :: l, h => by
    obtain ⟨y, hy⟩ := h x (by simp)
    obtain ⟨ys, h1, h2⟩ := list_choose l fun x hx => h x (by simp [hx])
    refine ⟨y :: ys, by simp [h1], fun i hi hi' => ?_⟩
    cases i with
    | zero => exact hy
    | succ i => exact h2 i _ _
theorem ActsAt.y {w : World} {q : Option Addr} {n c : Nat} {xs : List (Array Value)} (h : ActsAt w q n c xs) : ∃ ys, ActsY w q n c xs ys := by
  obtain ⟨ys, h1, h2⟩ := list_choose (p := fun (x : Array Value) (y : YE) => ActAt w x y.1 y.2.1 y.2.2) xs fun x hx => by
    obtain ⟨kind, m, b, ha⟩ := h.act x hx; exact ⟨(kind, m, b), ha⟩
  exact ⟨ys, h, by rw [h1, h.len], h2⟩
theorem ActsY.at {w0 w : World} {q : Option Addr} {n c : Nat} {xs : List (Array Value)} {ys : List YE} (h : ActsY w0 q n c xs ys) (k : Ext w0 w) {i : Nat} (hi : i < n) :
    ∃ b o a kind m bs x, q = some ⟨b, o, none⟩ ∧ ys[i]? = some (kind, m, bs) ∧ a = #[.int .i64 kind, .int .u64 m, x] ∧ rdO w.heap[b]? (o + i * 3) 3 = some a ∧ ActAt w0 a kind m bs ∧ a.size = 3 ∧ cellO w.heap[b]? (o + i * 3) = some (.int .i64 kind) ∧ cellO w.heap[b]? (o + i * 3 + 1) = some (.int .u64 m) ∧ cellO w.heap[b]? (o + i * 3 + 2) = some x ∧ Rd w0 x bs := by
  have hrd := rdS_keep h.acts.rd k fun _ _ h => h
  obtain ⟨b, o, rfl, h1⟩ := rdS_at hrd h.acts.len (fun x hx => by obtain ⟨_, _, _, h⟩ := h.acts.act x hx; exact h.size) hi
  have hl : i < xs.length := by rw [h.acts.len]; exact hi
  have hl' : i < ys.length := by rw [h.len]; exact hi
  have ha := h.is i hl hl'
  have c0 := rdO_cell h1 (j := 0) (by omega)
  have c1 := rdO_cell h1 (j := 1) (by omega)
  have c2 := rdO_cell h1 (j := 2) (by omega)
  obtain ⟨⟨x, hx, hr⟩, _, _⟩ := id ha
  rw [hx] at c0 c1 c2
  exact ⟨b, o, _, _, _, _, x, rfl, List.getElem?_eq_getElem hl', hx, h1, ha, ha.size, c0, c1, c2, hr⟩
def encY (y : YE) : List Int := encA y.1 y.2.1 y.2.2
theorem St.drop {w0 w : World} {p : Nat} {v out : Value} {bs os : List Int} (h : St w0 w p v out bs os) : St w0 w p v (.slice none 0 0) bs [] :=
  ⟨h.ext, h.at', h.pl, h.bl, ⟨Own1.nil w, h.ext, fun g h => (by cases h)⟩, fun g _ h => (by cases h)⟩
end Go.Proofs
