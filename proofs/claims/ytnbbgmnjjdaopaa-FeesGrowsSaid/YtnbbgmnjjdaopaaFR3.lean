/- 'strongboxlaw19.FeesGrows' returns true for every input, and the input reads as it did. No condition. -/
import Derived.Test.YtnbbgmnjjdaopaaFJ
import Derived.Test.YtnbbgmnjjdaopaaFR0
set_option linter.unusedSimpArgs false
set_option linter.unusedVariables false
set_option linter.constructorNameAsVariable false
namespace Go.Proofs.Ytnbbgmnjjdaopaa
open Go.Vc Go.ChangeShapes Go.WideShapes Go.ChangeAt Go.RowKit Go.Proofs

set_option maxRecDepth 100000 in
theorem grows_lifted (os : Os) (started : os.Started) (H : Type) (enc : TypeId × Value → H) :
    ReturnsInHanded {} Try.checked os 5 .any (Rows.feesGrowsSpec.pre6 enc Try.prog Try.f5 Rows.feesGrowsRow.domain false) (Rows.feesGrowsSpec.post enc Try.prog Try.f5 false true false false) := by
  refine returnsInHanded_of_change (C := Try.checked) Try.own started (by kernel_rfl) Try.func5
    (ChangeSpec.witness6 (enc := enc) (C := Try.checked) false ⟨#[], #[.slice none 0 0, .int .i64 0, .int .i64 0], []⟩ 8 (by kernel_rfl) (by kernel_rfl) (by kernel_rfl) (by kernel_rfl)) ?_
  intro W base args ds gs before hval0 hW hcnd _
  refine post_true Try.laidOut rfl rfl (tb := 4) (by kernel_rfl) ?_ ?_ hval0 hW ?_
  · rw [Try.params5]; intro t ht; simp at ht; rcases ht with rfl | rfl | rfl <;> exact ⟨by kernel_rfl, of_decide_eq_true (by kernel_rfl)⟩
  · intro ds hd; rw [Try.params5] at hd; match ds, hd with | [_, _, _], _ => rfl
  · intro hs ha
    rw [Try.params5] at hs ha
    obtain ⟨v, u, x, rfl⟩ := args_3 hs
    obtain ⟨q, n, c, xs, rfl, hA⟩ := acts_of (argSl (m := 6) (e := tyAct) (by kernel_rfl) Try.underlying22 (ha 0 22 v rfl rfl))
    obtain ⟨t, rfl, ht⟩ := argInt (m := 6) (by kernel_rfl) Try.underlying3 (ha 1 3 u rfl rfl)
    obtain ⟨pc, rfl, hp⟩ := argInt (m := 6) (by kernel_rfl) Try.underlying3 (ha 2 3 x rfl rfl)
    exact grows_ok W q n c xs t pc hA (wf_i64 ht).1 (wf_i64 hp)
theorem grows_holds : Rows.FeesGrowsSaid :=
  OpenClaim.holds_of_wide 5 Try.f5 rfl rfl rfl rfl rfl rfl rfl ⟨rfl, rfl, rfl, rfl, rfl⟩ rfl rfl rfl rfl rfl (by kernel_rfl) Try.func5 (by kernel_rfl)
    (of_decide_eq_true (by kernel_rfl)) (by unfold Func.isWrapper; first | (rw [if_pos (by decide +kernel)]; kernel_rfl) | (rw [if_neg (by decide +kernel)]; exact ⟨rfl, rfl⟩))
    (fun os started H enc _ => grows_lifted os started H enc)
end Go.Proofs.Ytnbbgmnjjdaopaa
