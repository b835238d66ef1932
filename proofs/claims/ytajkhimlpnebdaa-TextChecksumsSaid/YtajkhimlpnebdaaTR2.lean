/- 'strongboxlaw03.TextChecksums' returns true for every input, and the input reads as it did. No condition. -/
import Derived.Test.YtajkhimlpnebdaaTL
import Derived.Test.YtajkhimlpnebdaaDR0
set_option linter.unusedSimpArgs false
set_option linter.unusedVariables false
set_option linter.constructorNameAsVariable false
namespace Go.Proofs.Ytajkhimlpnebdaa
open Go.Vc Go.ChangeShapes Go.WideShapes Go.ChangeAt Go.RowKit Go.Proofs

set_option maxRecDepth 100000 in
theorem checksums_lifted (os : Os) (started : os.Started) (H : Type) (enc : TypeId × Value → H) :
    ReturnsInHanded {} Try.checked os 3 .any (Rows.textChecksumsSpec.pre6 enc Try.prog Try.f3 Rows.textChecksumsRow.domain false) (Rows.textChecksumsSpec.post enc Try.prog Try.f3 false true false false) := by
  refine returnsInHanded_of_change (C := Try.checked) Try.own started (by kernel_rfl) Try.func3
    (ChangeSpec.witness6 (enc := enc) (C := Try.checked) false ⟨#[], #[.string ⟨#[]⟩, .int .i64 0, .int .u8 0], []⟩ 8 (by kernel_rfl) (by kernel_rfl) (by kernel_rfl) (by kernel_rfl)) ?_
  intro W base args ds gs before hval0 hW hcnd _
  refine post_true Try.laidOut rfl rfl (tb := 4) (by kernel_rfl) ?_ ?_ hval0 hW ?_
  · rw [Try.params3]; intro t ht; simp at ht; rcases ht with rfl | rfl | rfl <;> exact ⟨by kernel_rfl, of_decide_eq_true (by kernel_rfl)⟩
  · intro ds hd; rw [Try.params3] at hd; match ds, hd with | [_, _, _], _ => rfl
  · intro hs ha
    rw [Try.params3] at hs ha
    obtain ⟨v, u, x, rfl⟩ := args_3 hs
    obtain ⟨s, rfl, _⟩ := argStr (m := 6) (by kernel_rfl) Try.underlying9 (ha 0 9 v rfl rfl)
    obtain ⟨n, rfl, hn⟩ := argInt (m := 6) (by kernel_rfl) Try.underlying3 (ha 1 3 u rfl rfl)
    obtain ⟨c, rfl, hc⟩ := argInt (m := 6) (by kernel_rfl) Try.underlying5 (ha 2 5 x rfl rfl)
    have h1 : IntKind.i64.min = -9223372036854775808 := by decide
    have h2 : IntKind.i64.max = 9223372036854775807 := by decide
    have h3 : IntKind.u8.min = 0 := by decide
    have h4 : IntKind.u8.max = 255 := by decide
    simp only [Lit.wf, Bool.and_eq_true, decide_eq_true_eq, h1, h2] at hn
    simp only [Lit.wf, Bool.and_eq_true, decide_eq_true_eq, h3, h4] at hc
    exact law_checksums W s n c hn hc
theorem checksums_holds : Rows.TextChecksumsSaid :=
  OpenClaim.holds_of_wide 3 Try.f3 rfl rfl rfl rfl rfl rfl rfl ⟨rfl, rfl, rfl, rfl, rfl⟩ rfl rfl rfl rfl rfl (by kernel_rfl) Try.func3 (by kernel_rfl)
    (of_decide_eq_true (by kernel_rfl)) (by unfold Func.isWrapper; first | (rw [if_pos (by decide +kernel)]; kernel_rfl) | (rw [if_neg (by decide +kernel)]; exact ⟨rfl, rfl⟩))
    (fun os started H enc _ => checksums_lifted os started H enc)
end Go.Proofs.Ytajkhimlpnebdaa
