/- 'strongboxtop.StrongboxPriced' returns true for every input, and the input reads as it did: the row, under what its listed variables hold. -/
import Derived.Test.YtladakljimlodaaDoorRows
import Derived.Test.YtladakljimlodaaDoorAF
import Derived.LaidMore
import Derived.LaidHandle
import Derived.MakeChecks
import Derived.Stop.LaidErr
import Derived.OpenShut
import Derived.ShapedOpen
import Derived.Shelf.Vars
import Derived.ProofKit
set_option linter.unusedSimpArgs false
set_option linter.unusedVariables false
set_option linter.constructorNameAsVariable false
namespace Go.Proofs.YtladakljimlodaaDoor
open Go.Vc Go.ChangeShapes Go.WideShapes Go.ChangeAt Go.RowKit Go.Proofs
theorem Tryd.own : ownKnob Tryd.prog.godebug = none := by kernel_rfl
theorem Tryd.laidOut : laidOutB Tryd.prog = true := by kernel_rfl

/-- The world's shape and what is laid, handed to the contract. -/
theorem returnsInHanded_and_shaped {H : Type} {enc : TypeId × Value → H} {a : Assume} {C : Checked} {os : Os} {f : FuncId} {fn : Func} {s : ChangeSpec} {conds : List PathCond} {apart fresh handsOn again : Bool} {X : World → Array Value → Prop}
    (hX : ∀ (w w' : World) (args : Array Value), w.heap = w'.heap → X w args → X w' args)
    (own : ownKnob C.prog.godebug = none) (started : os.Started) (noInit : C.prog.inits.idxOf? f = none) (hfn : C.prog.funcs[f]? = some fn)
    (witness : ∃ (w : World) (tape : Tape) (i : Input), w.os = os ∧ (w.forCall tape i).Shaped C.prog ∧ i.vars = [] ∧ Input.okWide C.prog (w.forCall tape i) .any w.heap.size f i ∧
      ((s.pre enc C.prog fn conds apart (w.forCall tape i).memory i.args ∧ X (w.forCall tape i).memory i.args) ∧ sizedMet enc C.prog fn (OpenSpec.ofChange s) apart (w.forCall tape i).memory i.args) ∧ a.holds C.prog (lone (Frame.enter C.prog f i.args .normal) [] (w.forCall tape i)))
    (contract : ∀ (W : World) (base : Nat) (args : Array Value) (ds gs : List (DataW H)) (before : List MemPlace),
      (∀ (j : Nat) t v, fn.params[j]? = some t → args[j]? = some v → Value.okWide C.prog W .any base t v) →
      DataW.Whole enc C.prog fn.params.toList s.vars apart W args.toList ds gs before →
      W.ShapedOpen C.prog → X W args →
      Calls C.prog f args W fun e W' => ∃ v, e = .returned v ∧ s.post enc C.prog fn apart fresh handsOn again W args v W') :
    ReturnsInHanded a C os f .any (fun w args => (s.pre enc C.prog fn conds apart w args ∧ X w args) ∧ sizedMet enc C.prog fn (OpenSpec.ofChange s) apart w args) (s.post enc C.prog fn apart fresh handsOn again) := by
  refine returnsInHanded_of_calls own started noInit witness ?_
  intro w tape i _ hsh _ hok hpre _
  obtain ⟨_, _, _, fn', hfn', _, _, _, _, hval⟩ := hok
  have e : fn' = fn := Option.some.inj (hfn'.symm.trans hfn)
  subst e
  obtain ⟨⟨⟨ds, gs, before, hw, _⟩, hx⟩, _⟩ := hpre
  have hw' := DataW.Whole.of_heap (w' := w.forCall tape i) (by rfl) hw
  refine (contract (w.forCall tape i) w.heap.size i.args ds gs before hval hw' hsh (hX _ _ _ (by rfl) hx)).mono fun e W' ⟨v, he, hp⟩ => ?_
  subst he
  exact ChangeSpec.post_blind hp

/-- The door's own heap meets the condition. -/
theorem door_met (os : Os) (args : Array Value) : laidMetH Tryd.prog Rows.strongboxPricedRow.laid ((World.doorLaid Tryd.prog 400 os).forCall (fun _ _ => 0) ⟨#[], args, []⟩).memory :=
  laidMetH_of_parts3 (fuel := 8) (laidMet_of_run' 8 (by kernel_rfl) (by kernel_rfl)) (by kernel_rfl) (by kernel_rfl)

theorem tabD : (Rows.laid_internal_strconv_uint64pow10 : DataW Unit) = Lib.tabData .u64 Lib.pow10Tab := by kernel_rfl
theorem gs_of {W : World} (h : laidMetH Tryd.prog Rows.strongboxPricedRow.laid W) (hs : W.ShapedOpen Tryd.prog) : Gs W := by
  rw [MakeChecks.laidMetH_plain _ _ _ (by kernel_rfl)] at h
  have h2 : laidMet Tryd.prog ((pow10n, Lib.tabData .u64 Lib.pow10Tab) :: Rows.strongboxPricedRow.laid.drop 3) W := by
    rw [← tabD]
    exact h.tail.tail
  have ht := Lib.tabIs_of_head (t := 83) (e := 63) (n := 20) gPow (by kernel_rfl) Tryd.underlying83 Tryd.underlying63 (by kernel_rfl) (by kernel_rfl) h2
  unfold Lib.TabIs World.var? at ht
  rw [gPow] at ht
  simp only [Option.bind_some] at ht
  refine ⟨?_, cell_of_shapedOpen_int (t := 3) (zero := #[.int .i64 0]) hs (of_decide_eq_true (by kernel_rfl)) (by kernel_rfl) rfl (by kernel_rfl) (by kernel_rfl) Tryd.underlying3⟩
  cases hb : W.heap[0]? with
  | none => rw [hb] at ht; cases ht
  | some x =>
    rw [hb] at ht
    cases x with
    | cells c t f =>
      simp only [Option.some.injEq] at ht
      subst ht
      exact ⟨t, f, rfl⟩
    | _ => cases ht

set_option maxRecDepth 100000 in
theorem priced_lifted (os : Os) (started : os.Started) (H : Type) (enc : TypeId × Value → H) :
    ReturnsInHanded {} Tryd.checked os 3 .any (fun w args => (Rows.strongboxPricedSpec.pre enc Tryd.prog Tryd.f3 [] false w args ∧ laidMetH Tryd.prog Rows.strongboxPricedRow.laid w) ∧ sizedMet enc Tryd.prog Tryd.f3 (OpenSpec.ofChange Rows.strongboxPricedSpec) false w args)
      (Rows.strongboxPricedSpec.post enc Tryd.prog Tryd.f3 false true false false) := by
  refine returnsInHanded_and_shaped (C := Tryd.checked) (X := fun w _ => laidMetH Tryd.prog Rows.strongboxPricedRow.laid w) (fun _ _ _ hh h => h.of_heap hh) Tryd.own started (by kernel_rfl) Tryd.func3
    (ChangeSpec.witness_shaped (enc := enc) (C := Tryd.checked) (os := os) (X := fun w _ => laidMetH Tryd.prog Rows.strongboxPricedRow.laid w) false (World.doorLaid Tryd.prog 400 os) #[.slice none 0 0, .int .i64 0, .int .i64 0] 8 rfl (World.shaped_of_RefB (by kernel_rfl) (by kernel_rfl)) (by kernel_rfl) (by kernel_rfl) (by kernel_rfl) (door_met os _)) ?_
  intro W base args ds gs before hval0 hW hsh hL
  refine post_true Tryd.laidOut rfl rfl (tb := 4) (by kernel_rfl) ?_ ?_ hval0 hW ?_
  · rw [Tryd.params3]; intro t ht; simp at ht; rcases ht with rfl | rfl | rfl <;> exact ⟨by kernel_rfl, of_decide_eq_true (by kernel_rfl)⟩
  · intro ds hd; rw [Tryd.params3] at hd; match ds, hd with | [_, _, _], _ => rfl
  · intro hs ha
    rw [Tryd.params3] at hs ha
    obtain ⟨v, u, x, rfl⟩ := args_3 hs
    obtain ⟨q, n, c, bs, rfl, hl, hR⟩ := nums_of (argSl (m := 6) (e := .cons (.int .i64) .nil) (by kernel_rfl) Tryd.underlying22 (ha 0 22 v rfl rfl))
    obtain ⟨r, rfl, _⟩ := argInt (m := 6) (by kernel_rfl) Tryd.underlying2 (ha 1 2 u rfl rfl)
    obtain ⟨s, rfl, _⟩ := argInt (m := 6) (by kernel_rfl) Tryd.underlying3 (ha 2 3 x rfl rfl)
    exact priced_ok W q n c bs r s hR hl (gs_of hL hsh)
theorem priced_holds : Rows.StrongboxPricedSaid :=
  OpenClaim.holds_of_wide 3 Tryd.f3 rfl rfl rfl rfl rfl rfl rfl ⟨rfl, rfl, rfl, rfl, rfl⟩ rfl rfl rfl rfl rfl (by kernel_rfl) Tryd.func3 (by kernel_rfl)
    (of_decide_eq_true (by kernel_rfl)) (by unfold Func.isWrapper; first | (rw [if_pos (by decide +kernel)]; kernel_rfl) | (rw [if_neg (by decide +kernel)]; exact ⟨rfl, rfl⟩))
    (fun os started H enc _ => priced_lifted os started H enc)
end Go.Proofs.YtladakljimlodaaDoor
