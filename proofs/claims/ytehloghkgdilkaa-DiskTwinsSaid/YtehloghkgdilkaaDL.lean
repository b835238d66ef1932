/- What the acts of an argument of this layer hold. -/
import Derived.Test.YtehloghkgdilkaaDD
set_option linter.unusedSimpArgs false
set_option linter.unusedVariables false
set_option linter.constructorNameAsVariable false
namespace Go.Proofs
open Go.Vc
set_option maxRecDepth 10000

def tyAct : Tys := .cons (.int .i64) (.cons (.int .i64) (.cons (.int .i64) (.cons (.sl (.cons (.int .u8) .nil)) .nil)))
theorem act_of {w : World} {x : Array Value} (h : LiesAll w tyAct x.toList) : ∃ kind n m v bs, ActAt w x kind n m v bs := by
  obtain ⟨l⟩ := x
  simp only [tyAct] at h
  match l, h with
  | [v0, v1, v2, v3], h =>
    simp only [LiesAll] at h
    obtain ⟨h0, h1, h2, h3, _⟩ := h
    obtain ⟨bs, hr, hb⟩ := bytes_of h3
    simp only [Lies] at h0 h1 h2
    obtain ⟨a0, rfl, _⟩ := h0
    obtain ⟨a1, rfl, hn⟩ := h1
    obtain ⟨a2, rfl, _⟩ := h2
    exact ⟨a0, a1, a2, v3, bs, rfl, hr, hb, wf_i64 hn⟩
  | [], h => simp [LiesAll] at h
  | [_], h => simp [LiesAll] at h
  | [_, _], h => simp [LiesAll] at h
  | [_, _, _], h => simp [LiesAll] at h
  | _ :: _ :: _ :: _ :: _ :: _, h => simp [LiesAll] at h
theorem acts_of {w : World} {v : Value} (h : Lies w (.sl tyAct) v) : ∃ q n c xs, v = .slice q n c ∧ ActsAt w q n c xs := by
  simp only [Lies] at h
  obtain ⟨q, n, c, xs, rfl, h2, h3, h4, h5, h6, h7⟩ := h
  exact ⟨q, n, c, xs, rfl, h4, Nat.le_trans h2 h3, h5, fun x hx => act_of (h7 x hx)⟩
end Go.Proofs
