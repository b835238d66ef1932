/- 'strongboxlaw19.FeesClones' returns true for every input, and the input reads as it did. No condition. -/
import Derived.Test.YtnbbgmnjjdaopaaFU
import Derived.Test.YtnbbgmnjjdaopaaFK
import Derived.Test.YtnbbgmnjjdaopaaFR0
set_option linter.unusedSimpArgs false
set_option linter.unusedVariables false
set_option linter.constructorNameAsVariable false
namespace Go.Proofs.Ytnbbgmnjjdaopaa
open Go.Vc Go.ChangeShapes Go.WideShapes Go.ChangeAt Go.RowKit Go.Proofs

set_option maxRecDepth 100000 in
theorem clones_lifted (os : Os) (started : os.Started) (H : Type) (enc : TypeId × Value → H) :
    ReturnsInHanded {} Try.checked os 6 .any (Rows.feesClonesSpec.pre6 enc Try.prog Try.f6 Rows.feesClonesRow.domain false) (Rows.feesClonesSpec.post enc Try.prog Try.f6 false true false false) := by
  refine returnsInHanded_of_change (C := Try.checked) Try.own started (by kernel_rfl) Try.func6
    (ChangeSpec.witness6 (enc := enc) (C := Try.checked) false ⟨#[], #[.slice none 0 0, .slice none 0 0, .slice none 0 0], []⟩ 8 (by kernel_rfl) (by kernel_rfl) (by kernel_rfl) (by kernel_rfl)) ?_
  intro W base args ds gs before hval0 hW hcnd _
  refine post_true Try.laidOut rfl rfl (tb := 4) (by kernel_rfl) ?_ ?_ hval0 hW ?_
  · rw [Try.params6]; intro t ht; simp at ht; subst ht; exact ⟨by kernel_rfl, of_decide_eq_true (by kernel_rfl)⟩
  · intro ds hd; rw [Try.params6] at hd; match ds, hd with | [_, _, _], _ => rfl
  · intro hs ha
    rw [Try.params6] at hs ha
    obtain ⟨v, u, x, rfl⟩ := args_3 hs
    obtain ⟨q, n, c, xs, rfl, hA⟩ := acts_of (argSl (m := 6) (e := tyAct) (by kernel_rfl) Try.underlying22 (ha 0 22 v rfl rfl))
    obtain ⟨q1, n1, c1, xs1, rfl, hA1⟩ := acts_of (argSl (m := 6) (e := tyAct) (by kernel_rfl) Try.underlying22 (ha 1 22 u rfl rfl))
    obtain ⟨q2, n2, c2, xs2, rfl, hA2⟩ := acts_of (argSl (m := 6) (e := tyAct) (by kernel_rfl) Try.underlying22 (ha 2 22 x rfl rfl))
    exact clones_ok W q q1 q2 n c n1 c1 n2 c2 xs xs1 xs2 hA hA1 hA2
theorem clones_holds : Rows.FeesClonesSaid :=
  OpenClaim.holds_of_wide 6 Try.f6 rfl rfl rfl rfl rfl rfl rfl ⟨rfl, rfl, rfl, rfl, rfl⟩ rfl rfl rfl rfl rfl (by kernel_rfl) Try.func6 (by kernel_rfl)
    (of_decide_eq_true (by kernel_rfl)) (by unfold Func.isWrapper; first | (rw [if_pos (by decide +kernel)]; kernel_rfl) | (rw [if_neg (by decide +kernel)]; exact ⟨rfl, rfl⟩))
    (fun os started H enc _ => clones_lifted os started H enc)
end Go.Proofs.Ytnbbgmnjjdaopaa
