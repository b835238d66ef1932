/- 'strongboxlaw11.ScriptNumbers' returns true for every input, and the input reads as it did. No condition. -/
import Derived.Test.YthjijgmhicplaaaSJ
import Derived.Test.YthjijgmhicplaaaWK
import Derived.Test.YthjijgmhicplaaaWR0
set_option linter.unusedSimpArgs false
set_option linter.unusedVariables false
set_option linter.constructorNameAsVariable false
namespace Go.Proofs.Ythjijgmhicplaaa
open Go.Vc Go.ChangeShapes Go.WideShapes Go.ChangeAt Go.RowKit Go.Proofs

set_option maxRecDepth 100000 in
theorem numbers_lifted (os : Os) (started : os.Started) (H : Type) (enc : TypeId × Value → H) :
    ReturnsInHanded {} Try.checked os 6 .any (Rows.scriptNumbersSpec.pre6 enc Try.prog Try.f6 Rows.scriptNumbersRow.domain false) (Rows.scriptNumbersSpec.post enc Try.prog Try.f6 false true false false) := by
  refine returnsInHanded_of_change (C := Try.checked) Try.own started (by kernel_rfl) Try.func6
    (ChangeSpec.witness6 (enc := enc) (C := Try.checked) false ⟨#[], #[.int .i64 0, .slice none 0 0, .int .i64 0], []⟩ 8 (by kernel_rfl) (by kernel_rfl) (by kernel_rfl) (by kernel_rfl)) ?_
  intro W base args ds gs before hval0 hW hcnd _
  refine post_true Try.laidOut rfl rfl (tb := 4) (by kernel_rfl) ?_ ?_ hval0 hW ?_
  · rw [Try.params6]; intro t ht; simp at ht; rcases ht with rfl | rfl | rfl <;> exact ⟨by kernel_rfl, of_decide_eq_true (by kernel_rfl)⟩
  · intro ds hd; rw [Try.params6] at hd; match ds, hd with | [d, d2, d3], _ => rfl
  · intro hs ha
    rw [Try.params6] at hs ha
    obtain ⟨v, v2, v3, rfl⟩ := args_3 hs
    obtain ⟨n, rfl, hn⟩ := argInt (m := 4) (by kernel_rfl) Try.underlying2 (ha 0 2 v rfl rfl)
    obtain ⟨bs, hR, hb⟩ := bytes_of (argSl (m := 4) (by kernel_rfl) Try.underlying22 (ha 1 22 v2 rfl rfl))
    obtain ⟨k, rfl, hk⟩ := argInt (m := 4) (by kernel_rfl) Try.underlying3 (ha 2 3 v3 rfl rfl)
    have hr : ∀ z : Int, (Lit.int .i64 z).wf = true → -9223372036854775808 ≤ z ∧ z ≤ 9223372036854775807 := fun z h => by
      have h1 : IntKind.i64.min = -9223372036854775808 := by decide
      have h2 : IntKind.i64.max = 9223372036854775807 := by decide
      simp only [Lit.wf, Bool.and_eq_true, decide_eq_true_eq, h1, h2] at h
      omega
    exact numbers_law W n v2 bs k (hr n hn) hR hb (hr k hk)
theorem numbers_holds : Rows.ScriptNumbersSaid :=
  OpenClaim.holds_of_wide 6 Try.f6 rfl rfl rfl rfl rfl rfl rfl ⟨rfl, rfl, rfl, rfl, rfl⟩ rfl rfl rfl rfl rfl (by kernel_rfl) Try.func6 (by kernel_rfl)
    (of_decide_eq_true (by kernel_rfl)) (by unfold Func.isWrapper; first | (rw [if_pos (by decide +kernel)]; kernel_rfl) | (rw [if_neg (by decide +kernel)]; exact ⟨rfl, rfl⟩))
    (fun os started H enc _ => numbers_lifted os started H enc)
end Go.Proofs.Ythjijgmhicplaaa
