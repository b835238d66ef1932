/- 'strongboxlaw11.ScriptForms' returns true for every input, and the input reads as it did. No condition. -/
import Derived.Test.YthjijgmhicplaaaSL
import Derived.Test.YthjijgmhicplaaaWK
import Derived.Test.YthjijgmhicplaaaWR0
set_option linter.unusedSimpArgs false
set_option linter.unusedVariables false
set_option linter.constructorNameAsVariable false
namespace Go.Proofs.Ythjijgmhicplaaa
open Go.Vc Go.ChangeShapes Go.WideShapes Go.ChangeAt Go.RowKit Go.Proofs

set_option maxRecDepth 100000 in
theorem forms_lifted (os : Os) (started : os.Started) (H : Type) (enc : TypeId × Value → H) :
    ReturnsInHanded {} Try.checked os 8 .any (Rows.scriptFormsSpec.pre6 enc Try.prog Try.f8 Rows.scriptFormsRow.domain false) (Rows.scriptFormsSpec.post enc Try.prog Try.f8 false true false false) := by
  refine returnsInHanded_of_change (C := Try.checked) Try.own started (by kernel_rfl) Try.func8
    (ChangeSpec.witness6 (enc := enc) (C := Try.checked) false ⟨#[], #[.agg #[.int .u8 0, .int .u8 0, .int .u8 0, .int .u8 0, .int .u8 0, .int .u8 0, .int .u8 0, .int .u8 0, .int .u8 0, .int .u8 0, .int .u8 0, .int .u8 0, .int .u8 0, .int .u8 0, .int .u8 0, .int .u8 0, .int .u8 0, .int .u8 0, .int .u8 0, .int .u8 0], .int .i64 0, .slice none 0 0], []⟩ 8 (by kernel_rfl) (by kernel_rfl) (by kernel_rfl) (by kernel_rfl)) ?_
  intro W base args ds gs before hval0 hW hcnd _
  refine post_true Try.laidOut rfl rfl (tb := 4) (by kernel_rfl) ?_ ?_ hval0 hW ?_
  · rw [Try.params8]; intro t ht; simp at ht; rcases ht with rfl | rfl | rfl <;> exact ⟨by kernel_rfl, of_decide_eq_true (by kernel_rfl)⟩
  · intro ds hd; rw [Try.params8] at hd; match ds, hd with | [d, d2, d3], _ => rfl
  · intro hs ha
    rw [Try.params8] at hs ha
    obtain ⟨v, v2, v3, rfl⟩ := args_3 hs
    obtain ⟨cs, rfl, hcs⟩ := argAgg (m := 4) (a := tysB 20) (by kernel_rfl) (.inr ⟨20, 5, Try.underlying60⟩) (ha 0 60 v rfl rfl)
    obtain ⟨h, hh, hl, hhb⟩ := bytes_all hcs
    obtain ⟨k, rfl, hk⟩ := argInt (m := 4) (by kernel_rfl) Try.underlying3 (ha 1 3 v2 rfl rfl)
    obtain ⟨bs, hR, hb⟩ := bytes_of (argSl (m := 4) (by kernel_rfl) Try.underlying22 (ha 2 22 v3 rfl rfl))
    have hc : cs = (bv h).toArray := by rw [← hh]
    rw [hc]
    exact forms_law W h hl hhb k v3 bs hR hb
theorem forms_holds : Rows.ScriptFormsSaid :=
  OpenClaim.holds_of_wide 8 Try.f8 rfl rfl rfl rfl rfl rfl rfl ⟨rfl, rfl, rfl, rfl, rfl⟩ rfl rfl rfl rfl rfl (by kernel_rfl) Try.func8 (by kernel_rfl)
    (of_decide_eq_true (by kernel_rfl)) (by unfold Func.isWrapper; first | (rw [if_pos (by decide +kernel)]; kernel_rfl) | (rw [if_neg (by decide +kernel)]; exact ⟨rfl, rfl⟩))
    (fun os started H enc _ => forms_lifted os started H enc)
end Go.Proofs.Ythjijgmhicplaaa
