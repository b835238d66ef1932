/- What the acts of an argument of this layer hold. -/
import Derived.Test.YtfackfekmadjbaaJF
set_option linter.unusedSimpArgs false
set_option linter.unusedVariables false
set_option linter.constructorNameAsVariable false
namespace Go.Proofs
open Go.Vc
set_option maxRecDepth 10000

def tyActJ : Tys := .cons (.int .i64) (.cons (.int .i64) (.cons (.int .i64) (.cons (.int .i64) (.cons (.int .i64) (.cons (.sl (.cons (.int .u8) .nil)) .nil)))))
theorem actJ_of {w : World} {x : Array Value} (h : LiesAll w tyActJ x.toList) : ∃ kind arm keep torn again v bs, ActJ w x kind arm keep torn again v bs := by
  obtain ⟨l⟩ := x
  simp only [tyActJ] at h
  match l, h with
  | [v0, v1, v2, v3, v4, v5], h =>
    simp only [LiesAll] at h
    obtain ⟨h0, h1, h2, h3, h4, h5, _⟩ := h
    obtain ⟨bs, hr, hb⟩ := bytes_of h5
    simp only [Lies] at h0 h1 h2 h3 h4
    obtain ⟨a0, rfl, _⟩ := h0
    obtain ⟨a1, rfl, n1⟩ := h1
    obtain ⟨a2, rfl, n2⟩ := h2
    obtain ⟨a3, rfl, n3⟩ := h3
    obtain ⟨a4, rfl, n4⟩ := h4
    exact ⟨a0, a1, a2, a3, a4, v5, bs, rfl, hr, hb, wf_i64 n1, wf_i64 n2, wf_i64 n3, wf_i64 n4⟩
  | [], h => simp [LiesAll] at h
  | [_], h => simp [LiesAll] at h
  | [_, _], h => simp [LiesAll] at h
  | [_, _, _], h => simp [LiesAll] at h
  | [_, _, _, _], h => simp [LiesAll] at h
  | [_, _, _, _, _], h => simp [LiesAll] at h
  | _ :: _ :: _ :: _ :: _ :: _ :: _ :: _, h => simp [LiesAll] at h
theorem actsJ_of {w : World} {v : Value} (h : Lies w (.sl tyActJ) v) : ∃ q n c xs, v = .slice q n c ∧ ActsJ w q n c xs := by
  simp only [Lies] at h
  obtain ⟨q, n, c, xs, rfl, h2, h3, h4, h5, h6, h7⟩ := h
  exact ⟨q, n, c, xs, rfl, h4, Nat.le_trans h2 h3, h5, fun x hx => actJ_of (h7 x hx)⟩
end Go.Proofs
