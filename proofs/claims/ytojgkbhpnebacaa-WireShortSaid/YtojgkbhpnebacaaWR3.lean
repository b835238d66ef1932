/- 'strongboxlaw01.WireShort' returns true for every input, and the input reads as it did. No condition. -/
import Derived.Test.YtojgkbhpnebacaaWL
import Derived.Test.YtojgkbhpnebacaaWR0
set_option linter.unusedSimpArgs false
set_option linter.unusedVariables false
set_option linter.constructorNameAsVariable false
namespace Go.Proofs.Ytojgkbhpnebacaa
open Go.Vc Go.ChangeShapes Go.WideShapes Go.ChangeAt Go.RowKit Go.Proofs

set_option maxRecDepth 100000 in
theorem short_lifted (os : Os) (started : os.Started) (H : Type) (enc : TypeId × Value → H) :
    ReturnsInHanded {} Try.checked os 5 .any (Rows.wireShortSpec.pre6 enc Try.prog Try.f5 Rows.wireShortRow.domain false) (Rows.wireShortSpec.post enc Try.prog Try.f5 false true false false) := by
  refine returnsInHanded_of_change (C := Try.checked) Try.own started (by kernel_rfl) Try.func5
    (ChangeSpec.witness6 (enc := enc) (C := Try.checked) false ⟨#[], #[.slice none 0 0, .int .i64 0], []⟩ 8 (by kernel_rfl) (by kernel_rfl) (by kernel_rfl) (by kernel_rfl)) ?_
  intro W base args ds gs before hval0 hW hcnd _
  refine post_true Try.laidOut rfl rfl (tb := 4) (by kernel_rfl) ?_ ?_ hval0 hW ?_
  · rw [Try.params5]; intro t ht; simp at ht; rcases ht with rfl | rfl <;> exact ⟨by kernel_rfl, of_decide_eq_true (by kernel_rfl)⟩
  · intro ds hd; rw [Try.params5] at hd; match ds, hd with | [d, d2], _ => rfl
  · intro hs ha
    rw [Try.params5] at hs ha
    obtain ⟨v, v2, rfl⟩ := args_2 hs
    obtain ⟨q, n, c, xs, rfl, hA⟩ := acts_of (argSl (m := 6) (e := tyAct) (by kernel_rfl) Try.underlying22 (ha 0 22 v rfl rfl))
    obtain ⟨ys, hY⟩ := hA.y
    obtain ⟨k, rfl, _⟩ := argInt (m := 5) (by kernel_rfl) Try.underlying3 (ha 1 3 v2 rfl rfl)
    exact short_law W q n c xs ys hY k
theorem short_holds : Rows.WireShortSaid :=
  OpenClaim.holds_of_wide 5 Try.f5 rfl rfl rfl rfl rfl rfl rfl ⟨rfl, rfl, rfl, rfl, rfl⟩ rfl rfl rfl rfl rfl (by kernel_rfl) Try.func5 (by kernel_rfl)
    (of_decide_eq_true (by kernel_rfl)) (by unfold Func.isWrapper; first | (rw [if_pos (by decide +kernel)]; kernel_rfl) | (rw [if_neg (by decide +kernel)]; exact ⟨rfl, rfl⟩))
    (fun os started H enc _ => short_lifted os started H enc)
end Go.Proofs.Ytojgkbhpnebacaa
