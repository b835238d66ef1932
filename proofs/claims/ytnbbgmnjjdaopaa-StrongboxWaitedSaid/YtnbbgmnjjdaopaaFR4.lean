/- 'strongboxtop.StrongboxWaited' returns true for every input, and the input reads as it did. No condition. -/
import Derived.Test.YtnbbgmnjjdaopaaFM
import Derived.Test.YtnbbgmnjjdaopaaFR0
set_option linter.unusedSimpArgs false
set_option linter.unusedVariables false
set_option linter.constructorNameAsVariable false
namespace Go.Proofs.Ytnbbgmnjjdaopaa
open Go.Vc Go.ChangeShapes Go.WideShapes Go.ChangeAt Go.RowKit Go.Proofs

set_option maxRecDepth 100000 in
theorem waited_lifted (os : Os) (started : os.Started) (H : Type) (enc : TypeId × Value → H) :
    ReturnsInHanded {} Try.checked os 7 .any (Rows.strongboxWaitedSpec.pre6 enc Try.prog Try.f7 Rows.strongboxWaitedRow.domain false) (Rows.strongboxWaitedSpec.post enc Try.prog Try.f7 false true false false) := by
  refine returnsInHanded_of_change (C := Try.checked) Try.own started (by kernel_rfl) Try.func7
    (ChangeSpec.witness6 (enc := enc) (C := Try.checked) false ⟨#[], #[.slice none 0 0, .slice none 0 0, .agg #[.int .i64 0, .int .i64 0]], []⟩ 8 (by kernel_rfl) (by kernel_rfl) (by kernel_rfl) (by kernel_rfl)) ?_
  intro W base args ds gs before hval0 hW hcnd _
  refine post_true Try.laidOut rfl rfl (tb := 4) (by kernel_rfl) ?_ ?_ hval0 hW ?_
  · rw [Try.params7]; intro t ht; simp at ht; rcases ht with rfl | rfl | rfl <;> exact ⟨by kernel_rfl, of_decide_eq_true (by kernel_rfl)⟩
  · intro ds hd; rw [Try.params7] at hd; match ds, hd with | [_, _, _], _ => rfl
  · intro hs ha
    rw [Try.params7] at hs ha
    obtain ⟨v, u, x, rfl⟩ := args_3 hs
    have h1 := argSl (m := 6) (e := .cons (.int .i64) .nil) (by kernel_rfl) Try.underlying51 (ha 0 51 v rfl rfl)
    have h2 := argSl (m := 6) (e := .cons (.int .i64) .nil) (by kernel_rfl) Try.underlying52 (ha 1 52 u rfl rfl)
    obtain ⟨q1, n1, c1, rfl⟩ := slice_of h1
    obtain ⟨q2, n2, c2, rfl⟩ := slice_of h2
    obtain ⟨_, r1, l1, e1, _⟩ := ints_of h1
    obtain ⟨_, r2, l2, e2, _⟩ := ints_of h2
    obtain ⟨cs, rfl, h3⟩ := argAgg (m := 6) (a := .cons (.int .i64) (.cons (.int .i64) .nil)) (by kernel_rfl) (.inr ⟨_, _, Try.underlying53⟩) (ha 2 53 x rfl rfl)
    obtain ⟨t, pc, rfl⟩ := ints2_of h3
    exact waited_ok W q1 q2 n1 c1 n2 c2 r1 r2 t pc l1 e1 l2 e2
theorem waited_holds : Rows.StrongboxWaitedSaid :=
  OpenClaim.holds_of_wide 7 Try.f7 rfl rfl rfl rfl rfl rfl rfl ⟨rfl, rfl, rfl, rfl, rfl⟩ rfl rfl rfl rfl rfl (by kernel_rfl) Try.func7 (by kernel_rfl)
    (of_decide_eq_true (by kernel_rfl)) (by unfold Func.isWrapper; first | (rw [if_pos (by decide +kernel)]; kernel_rfl) | (rw [if_neg (by decide +kernel)]; exact ⟨rfl, rfl⟩))
    (fun os started H enc _ => waited_lifted os started H enc)
end Go.Proofs.Ytnbbgmnjjdaopaa
