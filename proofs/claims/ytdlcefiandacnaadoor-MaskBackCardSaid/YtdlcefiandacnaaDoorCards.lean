/-
  DERIVED. GIVEN WITH THE SEED: THE CARDS: each row of YtdlcefiandacnaaDoorRows.lean that lists a variable, with what it lists TIED to the program's text (the seventh form; the later family's looks); each row that meets fmt, with fmt's text TOLD by the authors' own Lean function (tested against real Go, not proved from fmt's source: count such statements apart). THE CARD IS WHAT COUNTS. Prove the row's statement (the work); the ties are given (YtdlcefiandacnaaDoorTie.lean); close each card by the builder's one call (the guide's Derived/Test/ToyasCard.lean, 'card_holds'). Laid BY PROGRAM, IN A SANDBOX (cutbox-door.mjs). By AI agents, Wed Nov 11 2026. No macro, syntax, notation, axiom, sorry.
-/
import Derived.Test.YtdlcefiandacnaaDoorRows
import GoSem.ClaimSeven
namespace Go.Proofs.YtdlcefiandacnaaDoor
namespace Rows

/-- THE TIED CARD OF 'loesslaw15.MaskParts'. -/
def maskPartsCard : Claim7 := { stood := { row := maskPartsRow, standIns := [], harness := (true, "ddb88d0c431a71498b80143803105191c5d83276cbeff5ff7d4283f54acb4a23"), looks := false }, kinds := [], alts := [], laidByText := true, laidKinds := [.data], laidTests := true, laidLooks := .later }
def MaskPartsCardSaid : Prop := Claim7.holds Tryd.pinned (.plain (OpenSpec.ofChange maskPartsSpec)) maskPartsCard

/-- THE TIED CARD OF 'loesslaw15.MaskOrder'. -/
def maskOrderCard : Claim7 := { stood := { row := maskOrderRow, standIns := [], harness := (true, "ddb88d0c431a71498b80143803105191c5d83276cbeff5ff7d4283f54acb4a23"), looks := false }, kinds := [], alts := [], laidByText := true, laidKinds := [.data], laidTests := true, laidLooks := .later }
def MaskOrderCardSaid : Prop := Claim7.holds Tryd.pinned (.plain (OpenSpec.ofChange maskOrderSpec)) maskOrderCard

/-- THE TIED CARD OF 'loesslaw15.MaskBack'. -/
def maskBackCard : Claim7 := { stood := { row := maskBackRow, standIns := [], harness := (true, "ddb88d0c431a71498b80143803105191c5d83276cbeff5ff7d4283f54acb4a23"), looks := false }, kinds := [], alts := [], laidByText := true, laidKinds := [.data], laidTests := true, laidLooks := .later }
def MaskBackCardSaid : Prop := Claim7.holds Tryd.pinned (.plain (OpenSpec.ofChange maskBackSpec)) maskBackCard

/-- THE SECOND FORM's CARD OF 'loesslaw15.MaskParts'. -/
def maskPartsUptoCard : Claim7 := { stood := { row := maskPartsUptoRow, standIns := [], harness := (true, "ddb88d0c431a71498b80143803105191c5d83276cbeff5ff7d4283f54acb4a23"), looks := false }, kinds := [], alts := [], laidByText := true, laidKinds := [.data], laidTests := true, laidLooks := .later }
def MaskPartsUptoCardSaid : Prop := Claim7.holds Tryd.pinned (.plain (OpenSpec.upto maskPartsSpec)) maskPartsUptoCard

/-- THE SECOND FORM's CARD OF 'loesslaw15.MaskOrder'. -/
def maskOrderUptoCard : Claim7 := { stood := { row := maskOrderUptoRow, standIns := [], harness := (true, "ddb88d0c431a71498b80143803105191c5d83276cbeff5ff7d4283f54acb4a23"), looks := false }, kinds := [], alts := [], laidByText := true, laidKinds := [.data], laidTests := true, laidLooks := .later }
def MaskOrderUptoCardSaid : Prop := Claim7.holds Tryd.pinned (.plain (OpenSpec.upto maskOrderSpec)) maskOrderUptoCard

/-- THE SECOND FORM's CARD OF 'loesslaw15.MaskBack'. -/
def maskBackUptoCard : Claim7 := { stood := { row := maskBackUptoRow, standIns := [], harness := (true, "ddb88d0c431a71498b80143803105191c5d83276cbeff5ff7d4283f54acb4a23"), looks := false }, kinds := [], alts := [], laidByText := true, laidKinds := [.data], laidTests := true, laidLooks := .later }
def MaskBackUptoCardSaid : Prop := Claim7.holds Tryd.pinned (.plain (OpenSpec.upto maskBackSpec)) maskBackUptoCard
end Rows
end Go.Proofs.YtdlcefiandacnaaDoor
