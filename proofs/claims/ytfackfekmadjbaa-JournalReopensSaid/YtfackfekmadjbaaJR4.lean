/- 'strongboxlaw08.JournalReopens' returns true for every input, and the input reads as it did. No condition. -/
import Derived.Test.YtfackfekmadjbaaJK
import Derived.Test.YtfackfekmadjbaaDR0
set_option linter.unusedSimpArgs false
set_option linter.unusedVariables false
set_option linter.constructorNameAsVariable false
namespace Go.Proofs.Ytfackfekmadjbaa
open Go.Vc Go.ChangeShapes Go.WideShapes Go.ChangeAt Go.RowKit Go.Proofs

set_option maxRecDepth 100000 in
theorem reopens_lifted (os : Os) (started : os.Started) (H : Type) (enc : TypeId × Value → H) :
    ReturnsInHanded {} Try.checked os 6 .any (Rows.journalReopensSpec.pre6 enc Try.prog Try.f6 Rows.journalReopensRow.domain false) (Rows.journalReopensSpec.post enc Try.prog Try.f6 false true false false) := by
  refine returnsInHanded_of_change (C := Try.checked) Try.own started (by kernel_rfl) Try.func6
    (ChangeSpec.witness6 (enc := enc) (C := Try.checked) false ⟨#[], #[.int .i64 0, .slice none 0 0], []⟩ 8 (by kernel_rfl) (by kernel_rfl) (by kernel_rfl) (by kernel_rfl)) ?_
  intro W base args ds gs before hval0 hW hcnd _
  refine post_true Try.laidOut rfl rfl (tb := 4) (by kernel_rfl) ?_ ?_ hval0 hW ?_
  · rw [Try.params6]; intro t ht; simp at ht; rcases ht with rfl | rfl <;> exact ⟨by kernel_rfl, of_decide_eq_true (by kernel_rfl)⟩
  · intro ds hd; rw [Try.params6] at hd; match ds, hd with | [d, d2], _ => rfl
  · intro hs ha
    rw [Try.params6] at hs ha
    obtain ⟨v, v2, rfl⟩ := args_2 hs
    obtain ⟨k, rfl, hk⟩ := argInt (m := 6) (by kernel_rfl) Try.underlying3 (ha 0 3 v rfl rfl)
    obtain ⟨q, n, c, xs, rfl, hA⟩ := intsJ_of (argSl (m := 6) (e := .cons (.int .i64) .nil) (by kernel_rfl) Try.underlying47 (ha 1 47 v2 rfl rfl))
    exact reopens_ok W k q n c xs hA (wf_i64 hk)
theorem reopens_holds : Rows.JournalReopensSaid :=
  OpenClaim.holds_of_wide 6 Try.f6 rfl rfl rfl rfl rfl rfl rfl ⟨rfl, rfl, rfl, rfl, rfl⟩ rfl rfl rfl rfl rfl (by kernel_rfl) Try.func6 (by kernel_rfl)
    (of_decide_eq_true (by kernel_rfl)) (by unfold Func.isWrapper; first | (rw [if_pos (by decide +kernel)]; kernel_rfl) | (rw [if_neg (by decide +kernel)]; exact ⟨rfl, rfl⟩))
    (fun os started H enc _ => reopens_lifted os started H enc)
end Go.Proofs.Ytfackfekmadjbaa
