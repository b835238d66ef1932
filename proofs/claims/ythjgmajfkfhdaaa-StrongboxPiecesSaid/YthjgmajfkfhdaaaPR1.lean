/- 'strongboxtop.StrongboxPieces' returns true for every input, and the input reads as it did. No condition. -/
import Derived.Test.YthjgmajfkfhdaaaP6
set_option linter.unusedSimpArgs false
set_option linter.unusedVariables false
set_option linter.constructorNameAsVariable false
namespace Go.Proofs.Ythjgmajfkfhdaaa
open Go.Vc Go.ChangeShapes Go.WideShapes Go.ChangeAt Go.RowKit Go.Proofs

set_option maxRecDepth 100000 in
theorem pieces_lifted (os : Os) (started : os.Started) (H : Type) (enc : TypeId × Value → H) :
    ReturnsInHanded {} Try.checked os 3 .any (Rows.strongboxPiecesSpec.pre6 enc Try.prog Try.f3 Rows.strongboxPiecesRow.domain false) (Rows.strongboxPiecesSpec.post enc Try.prog Try.f3 false true false false) := by
  refine returnsInHanded_of_change (C := Try.checked) Try.own started (by kernel_rfl) Try.func3
    (ChangeSpec.witness6 (enc := enc) (C := Try.checked) false ⟨#[], #[.slice none 0 0, .slice none 0 0], []⟩ 8 (by kernel_rfl) (by kernel_rfl) (by kernel_rfl) (by kernel_rfl)) ?_
  intro W base args ds gs before hval0 hW hcnd _
  refine post_true Try.laidOut rfl rfl (tb := 4) (by kernel_rfl) ?_ ?_ hval0 hW ?_
  · rw [Try.params3]; intro t ht; simp at ht; rcases ht with rfl | rfl <;> exact ⟨by kernel_rfl, of_decide_eq_true (by kernel_rfl)⟩
  · intro ds hd; rw [Try.params3] at hd; match ds, hd with | [_, _], _ => rfl
  · intro hs ha
    rw [Try.params3] at hs ha
    obtain ⟨v, u, rfl⟩ := args_2 hs
    obtain ⟨ps, hps⟩ := prt_of (argSl (m := 6) (e := tyRow) (by kernel_rfl) Try.underlying22 (ha 0 22 v rfl rfl))
    obtain ⟨ns, hns⟩ := num_of (argSl (m := 6) (e := .cons (.int .u64) .nil) (by kernel_rfl) Try.underlying23 (ha 1 23 u rfl rfl))
    exact pieces_ok W v u ps ns hps hns
theorem pieces_holds : Rows.StrongboxPiecesSaid :=
  OpenClaim.holds_of_wide 3 Try.f3 rfl rfl rfl rfl rfl rfl rfl ⟨rfl, rfl, rfl, rfl, rfl⟩ rfl rfl rfl rfl rfl (by kernel_rfl) Try.func3 (by kernel_rfl)
    (of_decide_eq_true (by kernel_rfl)) (by unfold Func.isWrapper; first | (rw [if_pos (by decide +kernel)]; kernel_rfl) | (rw [if_neg (by decide +kernel)]; exact ⟨rfl, rfl⟩))
    (fun os started H enc _ => pieces_lifted os started H enc)
end Go.Proofs.Ythjgmajfkfhdaaa
