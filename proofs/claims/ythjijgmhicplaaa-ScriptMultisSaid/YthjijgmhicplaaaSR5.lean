/- 'strongboxlaw11.ScriptMultis' returns true for every input, and the input reads as it did. No condition. -/
import Derived.Test.YthjijgmhicplaaaSQ
import Derived.Test.YthjijgmhicplaaaWK
import Derived.Test.YthjijgmhicplaaaWR0
set_option linter.unusedSimpArgs false
set_option linter.unusedVariables false
set_option linter.constructorNameAsVariable false
namespace Go.Proofs.Ythjijgmhicplaaa
open Go.Vc Go.ChangeShapes Go.WideShapes Go.ChangeAt Go.RowKit Go.Proofs

theorem lists_of {w : World} {v : Value} (h : Lies w (.sl (.cons (.sl (.cons (.int .u8) .nil)) .nil)) v) : ∃ q c ps, v = .slice q ps.length c ∧ ps.length ≤ c ∧ PartsAt w v ps ∧ ∀ k ∈ ps, byt k := by
  simp only [Lies] at h
  obtain ⟨q, n, c, xs, rfl, h2, h3, h4, h5, _, h6⟩ := h
  have hel : ∀ x ∈ xs, ∃ v bs, x = #[v] ∧ Rd w v bs ∧ byt bs := fun x hx => by
    have h7 := h6 x hx
    obtain ⟨l⟩ := x
    match l, h7 with
    | [v0], h7 =>
      simp only [LiesAll] at h7
      obtain ⟨bs, hr, hb⟩ := bytes_of h7.1
      exact ⟨v0, bs, rfl, hr, hb⟩
    | [], h7 => simp [LiesAll] at h7
    | _ :: _ :: _, h7 => simp [LiesAll] at h7
  have hall : ∀ xs : List (Array Value), (∀ x ∈ xs, ∃ v bs, x = #[v] ∧ Rd w v bs ∧ byt bs) → ∃ (vs : List Value) (ps : List (List Int)), xs.flatMap Array.toList = vs ∧ vs.length = xs.length ∧ ps.length = xs.length ∧ (∀ i (h : i < vs.length) (h' : i < ps.length), Rd w vs[i] ps[i]) ∧ ∀ k ∈ ps, byt k := by
    intro xs
    induction xs with
    | nil => intro _; exact ⟨[], [], rfl, rfl, rfl, fun i h => absurd h (Nat.not_lt_zero i), fun k hk => by cases hk⟩
    | cons x xs ih =>
      intro h
      obtain ⟨vs, ps, e1, e2, e3, e4, e5⟩ := ih fun y hy => h y (by simp [hy])
      obtain ⟨v, bs, rfl, hr, hb⟩ := h x (by simp)
      refine ⟨v :: vs, bs :: ps, by rw [List.flatMap_cons, e1]; rfl, by simp [e2], by simp [e3], fun i hi hi' => ?_, fun k hk => ?_⟩
      · cases i with
        | zero => exact hr
        | succ i => exact e4 i (by simpa using hi) (by simpa using hi')
      · rcases List.mem_cons.1 hk with rfl | hk
        · exact hb
        · exact e5 k hk
  obtain ⟨vs, ps, e1, e2, e3, e4, e5⟩ := hall xs hel
  have hn : n = ps.length := by rw [e3, h4]
  subst hn
  refine ⟨q, c, ps, rfl, h2, ⟨vs, ?_, by rw [e2, e3], ⟨q, c, rfl⟩, e4⟩, e5⟩
  rw [← e1]; exact h5
set_option maxRecDepth 100000 in
theorem multis_lifted (os : Os) (started : os.Started) (H : Type) (enc : TypeId × Value → H) :
    ReturnsInHanded {} Try.checked os 7 .any (Rows.scriptMultisSpec.pre6 enc Try.prog Try.f7 Rows.scriptMultisRow.domain false) (Rows.scriptMultisSpec.post enc Try.prog Try.f7 false true false false) := by
  refine returnsInHanded_of_change (C := Try.checked) Try.own started (by kernel_rfl) Try.func7
    (ChangeSpec.witness6 (enc := enc) (C := Try.checked) false ⟨#[], #[.int .i64 0, .slice none 0 0], []⟩ 8 (by kernel_rfl) (by kernel_rfl) (by kernel_rfl) (by kernel_rfl)) ?_
  intro W base args ds gs before hval0 hW hcnd _
  refine post_true Try.laidOut rfl rfl (tb := 4) (by kernel_rfl) ?_ ?_ hval0 hW ?_
  · rw [Try.params7]; intro t ht; simp at ht; rcases ht with rfl | rfl <;> exact ⟨by kernel_rfl, of_decide_eq_true (by kernel_rfl)⟩
  · intro ds hd; rw [Try.params7] at hd; match ds, hd with | [d, d2], _ => rfl
  · intro hs ha
    rw [Try.params7] at hs ha
    obtain ⟨v, v2, rfl⟩ := args_2 hs
    obtain ⟨k, rfl, hk⟩ := argInt (m := 4) (by kernel_rfl) Try.underlying3 (ha 0 3 v rfl rfl)
    obtain ⟨q, c, ps, rfl, hc, hx, hb⟩ := lists_of (argSl (m := 4) (by kernel_rfl) Try.underlying40 (ha 1 40 v2 rfl rfl))
    have hr : -9223372036854775808 ≤ k ∧ k ≤ 9223372036854775807 := by
      have h1 : IntKind.i64.min = -9223372036854775808 := by decide
      have h2 : IntKind.i64.max = 9223372036854775807 := by decide
      simp only [Lit.wf, Bool.and_eq_true, decide_eq_true_eq, h1, h2] at hk
      omega
    exact multis_law W k q c ps hr hc hx hb
theorem multis_holds : Rows.ScriptMultisSaid :=
  OpenClaim.holds_of_wide 7 Try.f7 rfl rfl rfl rfl rfl rfl rfl ⟨rfl, rfl, rfl, rfl, rfl⟩ rfl rfl rfl rfl rfl (by kernel_rfl) Try.func7 (by kernel_rfl)
    (of_decide_eq_true (by kernel_rfl)) (by unfold Func.isWrapper; first | (rw [if_pos (by decide +kernel)]; kernel_rfl) | (rw [if_neg (by decide +kernel)]; exact ⟨rfl, rfl⟩))
    (fun os started H enc _ => multis_lifted os started H enc)
end Go.Proofs.Ythjijgmhicplaaa
