/- The card of 'strongboxtop.StrongboxPriced': it returns true for every input, and the input reads as it did; what its listed variables hold is tied to the program's text. No condition. -/
import Derived.Test.YtladakljimlodaaDoorAR1
import Derived.Test.YtladakljimlodaaDoorTie
import Derived.Test.YtladakljimlodaaDoorCards
import Derived.SevenTiedAt
set_option linter.unusedSimpArgs false
set_option linter.unusedVariables false
set_option linter.constructorNameAsVariable false
namespace Go.Proofs.YtladakljimlodaaDoor
open Go Go.Proofs
set_option maxRecDepth 100000

theorem pricedCard_holds : Rows.StrongboxPricedCardSaid :=
  Claim7.holds_tied_plain_at .later [] [.data, .data, .data, .sentinel, .sentinel] true Rows.strongboxPricedCard.stood.harness true
    priced_holds (fun _ h => by cases h) (by kernel_rfl) (fun _ h => by cases h) strongboxPriced_row_tie rfl ⟨rfl, rfl⟩ (by kernel_rfl) rfl
    (fun f fn hf hfn => by
      obtain rfl : f = 3 := Option.some.inj ((show Tryd.prog.funcNamed Rows.strongboxPricedRow.func = some 3 by kernel_rfl).symm.trans hf) |>.symm
      obtain rfl : fn = Tryd.f3 := (Option.some.inj (Tryd.func3.symm.trans hfn)).symm
      exact ⟨by kernel_rfl, fun j t ht => by
        rw [Tryd.params3] at ht
        have hm : t ∈ [22, 2, 3] := by simpa using Array.mem_of_getElem? ht
        have hall : ([22, 2, 3].all fun u => !Tryd.prog.wantsStandIn u) = true := by kernel_rfl
        exact (show Tryd.prog.wantsStandIn t = false by simpa using List.all_eq_true.1 hall t hm)⟩)
    (by kernel_rfl)
end Go.Proofs.YtladakljimlodaaDoor
