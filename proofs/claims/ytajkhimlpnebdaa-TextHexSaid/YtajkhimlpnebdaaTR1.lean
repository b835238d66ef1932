/- 'strongboxlaw03.TextHex' returns true for every input, and the input reads as it did. No condition. -/
import Derived.Test.YtajkhimlpnebdaaTG
import Derived.Test.YtajkhimlpnebdaaDR0
set_option linter.unusedSimpArgs false
set_option linter.unusedVariables false
set_option linter.constructorNameAsVariable false
namespace Go.Proofs.Ytajkhimlpnebdaa
open Go.Vc Go.ChangeShapes Go.WideShapes Go.ChangeAt Go.RowKit Go.Proofs

set_option maxRecDepth 100000 in
theorem hex_lifted (os : Os) (started : os.Started) (H : Type) (enc : TypeId × Value → H) :
    ReturnsInHanded {} Try.checked os 4 .any (Rows.textHexSpec.pre6 enc Try.prog Try.f4 Rows.textHexRow.domain false) (Rows.textHexSpec.post enc Try.prog Try.f4 false true false false) := by
  refine returnsInHanded_of_change (C := Try.checked) Try.own started (by kernel_rfl) Try.func4
    (ChangeSpec.witness6 (enc := enc) (C := Try.checked) false ⟨#[], #[.slice none 0 0, .string ⟨#[]⟩], []⟩ 8 (by kernel_rfl) (by kernel_rfl) (by kernel_rfl) (by kernel_rfl)) ?_
  intro W base args ds gs before hval0 hW hcnd _
  refine post_true Try.laidOut rfl rfl (tb := 4) (by kernel_rfl) ?_ ?_ hval0 hW ?_
  · rw [Try.params4]; intro t ht; simp at ht; rcases ht with rfl | rfl <;> exact ⟨by kernel_rfl, of_decide_eq_true (by kernel_rfl)⟩
  · intro ds hd; rw [Try.params4] at hd; match ds, hd with | [_, _], _ => rfl
  · intro hs ha
    rw [Try.params4] at hs ha
    obtain ⟨v, u, rfl⟩ := args_2 hs
    obtain ⟨bs, hR, hb⟩ := bytes_of (argSl (m := 6) (e := .cons (.int .u8) .nil) (by kernel_rfl) Try.underlying28 (ha 0 28 v rfl rfl))
    obtain ⟨s, rfl, _⟩ := argStr (m := 6) (by kernel_rfl) Try.underlying9 (ha 1 9 u rfl rfl)
    exact law_hex W v bs s hR hb
theorem hex_holds : Rows.TextHexSaid :=
  OpenClaim.holds_of_wide 4 Try.f4 rfl rfl rfl rfl rfl rfl rfl ⟨rfl, rfl, rfl, rfl, rfl⟩ rfl rfl rfl rfl rfl (by kernel_rfl) Try.func4 (by kernel_rfl)
    (of_decide_eq_true (by kernel_rfl)) (by unfold Func.isWrapper; first | (rw [if_pos (by decide +kernel)]; kernel_rfl) | (rw [if_neg (by decide +kernel)]; exact ⟨rfl, rfl⟩))
    (fun os started H enc _ => hex_lifted os started H enc)
end Go.Proofs.Ytajkhimlpnebdaa
