/- 'strongboxlaw07.DiskSafe' returns true for every input, and the input reads as it did. No condition. -/
import Derived.Test.YtehloghkgdilkaaDL
import Derived.Test.YtehloghkgdilkaaDG
import Derived.Test.YtehloghkgdilkaaDR0
set_option linter.unusedSimpArgs false
set_option linter.unusedVariables false
set_option linter.constructorNameAsVariable false
namespace Go.Proofs.Ytehloghkgdilkaa
open Go.Vc Go.ChangeShapes Go.WideShapes Go.ChangeAt Go.RowKit Go.Proofs

set_option maxRecDepth 100000 in
theorem safe_lifted (os : Os) (started : os.Started) (H : Type) (enc : TypeId × Value → H) :
    ReturnsInHanded {} Try.checked os 4 .any (Rows.diskSafeSpec.pre6 enc Try.prog Try.f4 Rows.diskSafeRow.domain false) (Rows.diskSafeSpec.post enc Try.prog Try.f4 false true false false) := by
  refine returnsInHanded_of_change (C := Try.checked) Try.own started (by kernel_rfl) Try.func4
    (ChangeSpec.witness6 (enc := enc) (C := Try.checked) false ⟨#[], #[.slice none 0 0, .int .i64 0, .int .i64 0], []⟩ 8 (by kernel_rfl) (by kernel_rfl) (by kernel_rfl) (by kernel_rfl)) ?_
  intro W base args ds gs before hval0 hW hcnd _
  refine post_true Try.laidOut rfl rfl (tb := 4) (by kernel_rfl) ?_ ?_ hval0 hW ?_
  · rw [Try.params4]; intro t ht; simp at ht; rcases ht with rfl | rfl | rfl <;> exact ⟨by kernel_rfl, of_decide_eq_true (by kernel_rfl)⟩
  · intro ds hd; rw [Try.params4] at hd; match ds, hd with | [d, d2, d3], _ => rfl
  · intro hs ha
    rw [Try.params4] at hs ha
    obtain ⟨v, v2, v3, rfl⟩ := args_3 hs
    obtain ⟨q, n, c, xs, rfl, hA⟩ := acts_of (argSl (m := 6) (e := tyAct) (by kernel_rfl) Try.underlying22 (ha 0 22 v rfl rfl))
    obtain ⟨k, rfl, hk⟩ := argInt (m := 6) (by kernel_rfl) Try.underlying3 (ha 1 3 v2 rfl rfl)
    obtain ⟨k2, rfl, hk2⟩ := argInt (m := 6) (by kernel_rfl) Try.underlying3 (ha 2 3 v3 rfl rfl)
    exact safe_ok W q n c xs k k2 hA
theorem safe_holds : Rows.DiskSafeSaid :=
  OpenClaim.holds_of_wide 4 Try.f4 rfl rfl rfl rfl rfl rfl rfl ⟨rfl, rfl, rfl, rfl, rfl⟩ rfl rfl rfl rfl rfl (by kernel_rfl) Try.func4 (by kernel_rfl)
    (of_decide_eq_true (by kernel_rfl)) (by unfold Func.isWrapper; first | (rw [if_pos (by decide +kernel)]; kernel_rfl) | (rw [if_neg (by decide +kernel)]; exact ⟨rfl, rfl⟩))
    (fun os started H enc _ => safe_lifted os started H enc)
end Go.Proofs.Ytehloghkgdilkaa
