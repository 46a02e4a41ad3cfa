/- The card of MaskBack: for every input the law answers true, its arguments read as they did; the listed table of package math/bits is tied to the program's text. Conditions: none beyond the card's own cells. -/
import Derived.Test.YtdlcefiandacnaaDoorMaskBackRow
import Derived.Test.YtdlcefiandacnaaDoorCards
import Derived.Test.YtdlcefiandacnaaDoorTie
import Derived.SevenTiedAt
namespace Go.Proofs.YtdlcefiandacnaaDoor
open Go
theorem maskBackCard_holds : Rows.MaskBackCardSaid :=
  Claim7.holds_tied_plain_at .later [] [.data] true (true, "ddb88d0c431a71498b80143803105191c5d83276cbeff5ff7d4283f54acb4a23") false
    maskBack_holds (fun _ h => by cases h) (by kernel_rfl) (fun _ h => by cases h) maskBack_row_tie rfl ⟨rfl, rfl⟩ (by kernel_rfl) rfl
    (fun f fn hf hfn => by
      obtain rfl : f = 5 := Option.some.inj ((show Tryd.prog.funcNamed "loess/loesslaw15.MaskBack" = some 5 by kernel_rfl).symm.trans hf) |>.symm
      obtain rfl : fn = Tryd.f5 := (Option.some.inj (Tryd.func5.symm.trans hfn)).symm
      exact ⟨by kernel_rfl, fun j t ht => by
        rw [Tryd.params5] at ht
        have hm : t ∈ [25, 3, 30] := by simpa using Array.mem_of_getElem? ht
        have hall : ([25, 3, 30].all fun u => !Tryd.prog.wantsStandIn u) = true := by kernel_rfl
        exact (show Tryd.prog.wantsStandIn t = false by simpa using List.all_eq_true.1 hall t hm)⟩)
    (by kernel_rfl)
end Go.Proofs.YtdlcefiandacnaaDoor
