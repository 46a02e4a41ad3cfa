/-
  No cell of these rows narrows 'for every input' (looked for: loops, veiled, ifaces, maps, wideKeys, modest, calm, conditions, laid).
  DERIVED. THE GIVEN ROWS OF THIS SEAT. 6 by the template 'for every input the law returns true; each argument reads behind the call as it read before'; 0 by the template 'total and deterministic' (their statements: YtndchgmgcjebiaaTotals.lean).
  GIVEN WITH THE SEED: the statements are not yours to turn. If you find one false, say at which input.
  Laid BY PROGRAM, IN A SANDBOX (cutbox-rows.mjs): the forced cells as the released guide's own fill.sh prints them over the translation be808988b6e2a93d… (all of the seat's roots in one cut). By AI agents, Wed Nov 11 2026. No macro, syntax, notation, axiom, sorry.
-/
import Derived.Test.YtndchgmgcjebiaaChecked
import GoSem.Claim
import GoSem.ClaimJoined
import GoSem.ClaimMapViews
import Derived.JoinedTies
import Derived.KernelRfl
namespace Go.Proofs.Ytndchgmgcjebiaa
/- THE CELL 'sum', in the pinned program and in every row, IS THE sha256 OF THE DUMP (.gsa) THAT YtndchgmgcjebiaaProg.lean LOADS. Nothing in Lean hashes anything: it is a label: what it is worth is what the hold of that sum in a sandbox is worth. -/
noncomputable def Try.pinned : Pinned := { name := "ytndchgmgcjebiaa", sum := "be808988b6e2a93d20ff945056c62c7528aee8b8519f4b84f9ea7637249c1e4a", checked := Try.checked }
namespace Rows
def none {H : Type} : Left H := { results := [], args := [] }

/-- 'loesslaw09.NodeBytes': WHATEVER THE INPUT: true; the input reads as it did. -/
def nodeBytesSpec : ChangeSpec := { name := "nodeBytes", fn := fun _ => fun
  | [d1, d2] => { results := [.lit (.bool true)], args := [d1, d2] }
  | _ => none }
def nodeBytesRow : OpenClaim := { program := "ytndchgmgcjebiaa", sum := "be808988b6e2a93d20ff945056c62c7528aee8b8519f4b84f9ea7637249c1e4a", func := "loess/loesslaw09.NodeBytes", spec := "nodeBytes", unfollowed := true, recurses := true, apart := false }
def NodeBytesSaid : Prop := nodeBytesRow.holds Try.pinned (OpenSpec.ofChange nodeBytesSpec)

/-- ITS FALSE NEIGHBOUR: 'it returns false'. Refute it at one input. -/
def nodeBytesWrong : ChangeSpec := { name := "nodeBytes", fn := fun _ => fun
  | [d1, d2] => { results := [.lit (.bool false)], args := [d1, d2] }
  | _ => none }
def NodeBytesWrongFalsely : Prop := nodeBytesRow.holds Try.pinned (OpenSpec.ofChange nodeBytesWrong)

/-- 'loesslaw09.NodeFinds': WHATEVER THE INPUT: true; the input reads as it did. -/
def nodeFindsSpec : ChangeSpec := { name := "nodeFinds", fn := fun _ => fun
  | [d1, d2, d3] => { results := [.lit (.bool true)], args := [d1, d2, d3] }
  | _ => none }
def nodeFindsRow : OpenClaim := { program := "ytndchgmgcjebiaa", sum := "be808988b6e2a93d20ff945056c62c7528aee8b8519f4b84f9ea7637249c1e4a", func := "loess/loesslaw09.NodeFinds", spec := "nodeFinds", unfollowed := true, recurses := true, apart := false }
def NodeFindsSaid : Prop := nodeFindsRow.holds Try.pinned (OpenSpec.ofChange nodeFindsSpec)

/-- ITS FALSE NEIGHBOUR: 'it returns false'. Refute it at one input. -/
def nodeFindsWrong : ChangeSpec := { name := "nodeFinds", fn := fun _ => fun
  | [d1, d2, d3] => { results := [.lit (.bool false)], args := [d1, d2, d3] }
  | _ => none }
def NodeFindsWrongFalsely : Prop := nodeFindsRow.holds Try.pinned (OpenSpec.ofChange nodeFindsWrong)

/-- 'loesslaw09.NodeChanges': WHATEVER THE INPUT: true; the input reads as it did. -/
def nodeChangesSpec : ChangeSpec := { name := "nodeChanges", fn := fun _ => fun
  | [d1, d2, d3] => { results := [.lit (.bool true)], args := [d1, d2, d3] }
  | _ => none }
def nodeChangesRow : OpenClaim := { program := "ytndchgmgcjebiaa", sum := "be808988b6e2a93d20ff945056c62c7528aee8b8519f4b84f9ea7637249c1e4a", func := "loess/loesslaw09.NodeChanges", spec := "nodeChanges", unfollowed := true, recurses := true, apart := false }
def NodeChangesSaid : Prop := nodeChangesRow.holds Try.pinned (OpenSpec.ofChange nodeChangesSpec)

/-- ITS FALSE NEIGHBOUR: 'it returns false'. Refute it at one input. -/
def nodeChangesWrong : ChangeSpec := { name := "nodeChanges", fn := fun _ => fun
  | [d1, d2, d3] => { results := [.lit (.bool false)], args := [d1, d2, d3] }
  | _ => none }
def NodeChangesWrongFalsely : Prop := nodeChangesRow.holds Try.pinned (OpenSpec.ofChange nodeChangesWrong)

/-- 'loesslaw09.NodeOrder': WHATEVER THE INPUT: true; the input reads as it did. -/
def nodeOrderSpec : ChangeSpec := { name := "nodeOrder", fn := fun _ => fun
  | [d1, d2, d3] => { results := [.lit (.bool true)], args := [d1, d2, d3] }
  | _ => none }
def nodeOrderRow : OpenClaim := { program := "ytndchgmgcjebiaa", sum := "be808988b6e2a93d20ff945056c62c7528aee8b8519f4b84f9ea7637249c1e4a", func := "loess/loesslaw09.NodeOrder", spec := "nodeOrder", unfollowed := true, recurses := true, apart := false }
def NodeOrderSaid : Prop := nodeOrderRow.holds Try.pinned (OpenSpec.ofChange nodeOrderSpec)

/-- ITS FALSE NEIGHBOUR: 'it returns false'. Refute it at one input. -/
def nodeOrderWrong : ChangeSpec := { name := "nodeOrder", fn := fun _ => fun
  | [d1, d2, d3] => { results := [.lit (.bool false)], args := [d1, d2, d3] }
  | _ => none }
def NodeOrderWrongFalsely : Prop := nodeOrderRow.holds Try.pinned (OpenSpec.ofChange nodeOrderWrong)

/-- 'loesslaw09.NodeSplits': WHATEVER THE INPUT: true; the input reads as it did. -/
def nodeSplitsSpec : ChangeSpec := { name := "nodeSplits", fn := fun _ => fun
  | [d1, d2, d3] => { results := [.lit (.bool true)], args := [d1, d2, d3] }
  | _ => none }
def nodeSplitsRow : OpenClaim := { program := "ytndchgmgcjebiaa", sum := "be808988b6e2a93d20ff945056c62c7528aee8b8519f4b84f9ea7637249c1e4a", func := "loess/loesslaw09.NodeSplits", spec := "nodeSplits", unfollowed := true, recurses := true, apart := false }
def NodeSplitsSaid : Prop := nodeSplitsRow.holds Try.pinned (OpenSpec.ofChange nodeSplitsSpec)

/-- ITS FALSE NEIGHBOUR: 'it returns false'. Refute it at one input. -/
def nodeSplitsWrong : ChangeSpec := { name := "nodeSplits", fn := fun _ => fun
  | [d1, d2, d3] => { results := [.lit (.bool false)], args := [d1, d2, d3] }
  | _ => none }
def NodeSplitsWrongFalsely : Prop := nodeSplitsRow.holds Try.pinned (OpenSpec.ofChange nodeSplitsWrong)

/-- 'loesslaw09.NodeBack': WHATEVER THE INPUT: true; the input reads as it did. -/
def nodeBackSpec : ChangeSpec := { name := "nodeBack", fn := fun _ => fun
  | [d1, d2, d3] => { results := [.lit (.bool true)], args := [d1, d2, d3] }
  | _ => none }
def nodeBackRow : OpenClaim := { program := "ytndchgmgcjebiaa", sum := "be808988b6e2a93d20ff945056c62c7528aee8b8519f4b84f9ea7637249c1e4a", func := "loess/loesslaw09.NodeBack", spec := "nodeBack", unfollowed := true, recurses := true, apart := false }
def NodeBackSaid : Prop := nodeBackRow.holds Try.pinned (OpenSpec.ofChange nodeBackSpec)

/-- ITS FALSE NEIGHBOUR: 'it returns false'. Refute it at one input. -/
def nodeBackWrong : ChangeSpec := { name := "nodeBack", fn := fun _ => fun
  | [d1, d2, d3] => { results := [.lit (.bool false)], args := [d1, d2, d3] }
  | _ => none }
def NodeBackWrongFalsely : Prop := nodeBackRow.holds Try.pinned (OpenSpec.ofChange nodeBackWrong)

/- THE SECOND FORM. 'bulk': how many values and letters a reading holds, each counted each time it is reached (what is shared counts as often as it is met; a slice's spare places count too). A statement '..UptoSaid' is the law's where the arguments, and the package variables that the reading takes, are together of bulk at most 1048576: NARROWER than '..Said'. Prove '..Said' where nothing that the law and all that it calls make is longer than what came in: it says more and counts as full. Else prove '..UptoSaid'. A law counts once. -/
mutual
def uptoBulk {H : Type} : DataW H → Nat
  | .lit (.string bytes) => bytes.length + 1
  | .lit _ => 1
  | .nil => 1
  | .ptr d => uptoBulk d + 1
  | .slice elems spare => uptoBulkAll elems + uptoBulkAll spare + 1
  | .agg parts => uptoBulkAll parts + 1
  | .iface _ d => uptoBulk d + 1
  | .map entries => uptoBulkEntries entries + 1
  | .held _ => 1
def uptoBulkAll {H : Type} : List (DataW H) → Nat
  | [] => 0
  | d :: r => uptoBulk d + uptoBulkAll r
def uptoBulkEntries {H : Type} : List (Lit × DataW H) → Nat
  | [] => 0
  | x :: r => uptoBulkEntry x + uptoBulkEntries r
def uptoBulkEntry {H : Type} : Lit × DataW H → Nat
  | (.string bytes, d) => bytes.length + uptoBulk d + 1
  | (_, d) => uptoBulk d + 1
 end
def uptoSmall : (H : Type) → List (DataW H) → Bool := fun _ ds => decide (uptoBulkAll ds ≤ 1048576)
def OpenSpec.upto (s : _root_.Go.ChangeSpec) : _root_.Go.OpenSpec := { _root_.Go.OpenSpec.ofChange s with cond := some uptoSmall }

/-- 'loesslaw09.NodeBytes', WHERE WHAT IT READS IS OF BULK AT MOST 1048576: true; the input reads as it did. -/
def nodeBytesUptoRow : OpenClaim := { program := "ytndchgmgcjebiaa", sum := "be808988b6e2a93d20ff945056c62c7528aee8b8519f4b84f9ea7637249c1e4a", func := "loess/loesslaw09.NodeBytes", spec := "nodeBytes", unfollowed := true, recurses := true, apart := false, narrowed := true }
def NodeBytesUptoSaid : Prop := nodeBytesUptoRow.holds Try.pinned (OpenSpec.upto nodeBytesSpec)

/-- 'loesslaw09.NodeFinds', WHERE WHAT IT READS IS OF BULK AT MOST 1048576: true; the input reads as it did. -/
def nodeFindsUptoRow : OpenClaim := { program := "ytndchgmgcjebiaa", sum := "be808988b6e2a93d20ff945056c62c7528aee8b8519f4b84f9ea7637249c1e4a", func := "loess/loesslaw09.NodeFinds", spec := "nodeFinds", unfollowed := true, recurses := true, apart := false, narrowed := true }
def NodeFindsUptoSaid : Prop := nodeFindsUptoRow.holds Try.pinned (OpenSpec.upto nodeFindsSpec)

/-- 'loesslaw09.NodeChanges', WHERE WHAT IT READS IS OF BULK AT MOST 1048576: true; the input reads as it did. -/
def nodeChangesUptoRow : OpenClaim := { program := "ytndchgmgcjebiaa", sum := "be808988b6e2a93d20ff945056c62c7528aee8b8519f4b84f9ea7637249c1e4a", func := "loess/loesslaw09.NodeChanges", spec := "nodeChanges", unfollowed := true, recurses := true, apart := false, narrowed := true }
def NodeChangesUptoSaid : Prop := nodeChangesUptoRow.holds Try.pinned (OpenSpec.upto nodeChangesSpec)

/-- 'loesslaw09.NodeOrder', WHERE WHAT IT READS IS OF BULK AT MOST 1048576: true; the input reads as it did. -/
def nodeOrderUptoRow : OpenClaim := { program := "ytndchgmgcjebiaa", sum := "be808988b6e2a93d20ff945056c62c7528aee8b8519f4b84f9ea7637249c1e4a", func := "loess/loesslaw09.NodeOrder", spec := "nodeOrder", unfollowed := true, recurses := true, apart := false, narrowed := true }
def NodeOrderUptoSaid : Prop := nodeOrderUptoRow.holds Try.pinned (OpenSpec.upto nodeOrderSpec)

/-- 'loesslaw09.NodeSplits', WHERE WHAT IT READS IS OF BULK AT MOST 1048576: true; the input reads as it did. -/
def nodeSplitsUptoRow : OpenClaim := { program := "ytndchgmgcjebiaa", sum := "be808988b6e2a93d20ff945056c62c7528aee8b8519f4b84f9ea7637249c1e4a", func := "loess/loesslaw09.NodeSplits", spec := "nodeSplits", unfollowed := true, recurses := true, apart := false, narrowed := true }
def NodeSplitsUptoSaid : Prop := nodeSplitsUptoRow.holds Try.pinned (OpenSpec.upto nodeSplitsSpec)

/-- 'loesslaw09.NodeBack', WHERE WHAT IT READS IS OF BULK AT MOST 1048576: true; the input reads as it did. -/
def nodeBackUptoRow : OpenClaim := { program := "ytndchgmgcjebiaa", sum := "be808988b6e2a93d20ff945056c62c7528aee8b8519f4b84f9ea7637249c1e4a", func := "loess/loesslaw09.NodeBack", spec := "nodeBack", unfollowed := true, recurses := true, apart := false, narrowed := true }
def NodeBackUptoSaid : Prop := nodeBackUptoRow.holds Try.pinned (OpenSpec.upto nodeBackSpec)

end Rows
end Go.Proofs.Ytndchgmgcjebiaa
