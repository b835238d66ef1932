/- 'strongboxlaw03.TextGroups' returns true for every input, and the input reads as it did. No condition. -/
import Derived.Test.YtajkhimlpnebdaaTS
import Derived.Test.YtajkhimlpnebdaaDR0
set_option linter.unusedSimpArgs false
set_option linter.unusedVariables false
set_option linter.constructorNameAsVariable false
namespace Go.Proofs.Ytajkhimlpnebdaa
open Go.Vc Go.ChangeShapes Go.WideShapes Go.ChangeAt Go.RowKit Go.Proofs

theorem ints2_of {w : World} {k : IntKind} {cs : Array Value} (h : LiesAll w (.cons (.int k) (.cons (.int k) .nil)) cs.toList) : ∃ a b, cs = #[.int k a, .int k b] := by
  obtain ⟨l⟩ := cs
  match l, h with
  | [v, u], h =>
    simp only [LiesAll, Lies] at h
    obtain ⟨⟨a, rfl, _⟩, ⟨b, rfl, _⟩, _⟩ := h
    exact ⟨a, b, rfl⟩
  | [], h => simp [LiesAll] at h
  | [_], h => simp [LiesAll] at h
  | _ :: _ :: _ :: _, h => simp [LiesAll] at h
set_option maxRecDepth 100000 in
theorem groups_lifted (os : Os) (started : os.Started) (H : Type) (enc : TypeId × Value → H) :
    ReturnsInHanded {} Try.checked os 5 .any (Rows.textGroupsSpec.pre6 enc Try.prog Try.f5 Rows.textGroupsRow.domain false) (Rows.textGroupsSpec.post enc Try.prog Try.f5 false true false false) := by
  refine returnsInHanded_of_change (C := Try.checked) Try.own started (by kernel_rfl) Try.func5
    (ChangeSpec.witness6 (enc := enc) (C := Try.checked) false ⟨#[], #[.slice none 0 0, .agg #[.int .i64 0, .int .i64 0], .bool false], []⟩ 8 (by kernel_rfl) (by kernel_rfl) (by kernel_rfl) (by kernel_rfl)) ?_
  intro W base args ds gs before hval0 hW hcnd _
  refine post_true Try.laidOut rfl rfl (tb := 4) (by kernel_rfl) ?_ ?_ hval0 hW ?_
  · rw [Try.params5]; intro t ht; simp at ht; rcases ht with rfl | rfl | rfl <;> exact ⟨by kernel_rfl, of_decide_eq_true (by kernel_rfl)⟩
  · intro ds hd; rw [Try.params5] at hd; match ds, hd with | [_, _, _], _ => rfl
  · intro hs ha
    rw [Try.params5] at hs ha
    obtain ⟨v, u, x, rfl⟩ := args_3 hs
    obtain ⟨bs, hR, hb⟩ := bytes_of (argSl (m := 6) (e := .cons (.int .u8) .nil) (by kernel_rfl) Try.underlying28 (ha 0 28 v rfl rfl))
    obtain ⟨cs, rfl, h3⟩ := argAgg (m := 6) (a := .cons (.int .i64) (.cons (.int .i64) .nil)) (by kernel_rfl) (.inr ⟨_, _, Try.underlying38⟩) (ha 1 38 u rfl rfl)
    obtain ⟨a, b, rfl⟩ := ints2_of h3
    obtain ⟨p, rfl⟩ := argBool (m := 6) (by kernel_rfl) Try.underlying4 (ha 2 4 x rfl rfl)
    exact law_groups W v bs a b p hR hb
theorem groups_holds : Rows.TextGroupsSaid :=
  OpenClaim.holds_of_wide 5 Try.f5 rfl rfl rfl rfl rfl rfl rfl ⟨rfl, rfl, rfl, rfl, rfl⟩ rfl rfl rfl rfl rfl (by kernel_rfl) Try.func5 (by kernel_rfl)
    (of_decide_eq_true (by kernel_rfl)) (by unfold Func.isWrapper; first | (rw [if_pos (by decide +kernel)]; kernel_rfl) | (rw [if_neg (by decide +kernel)]; exact ⟨rfl, rfl⟩))
    (fun os started H enc _ => groups_lifted os started H enc)
end Go.Proofs.Ytajkhimlpnebdaa
