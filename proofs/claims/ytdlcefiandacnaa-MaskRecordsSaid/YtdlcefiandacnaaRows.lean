/-
  No cell of these rows narrows 'for every input' (looked for: loops, veiled, ifaces, maps, wideKeys, modest, calm, conditions, laid).
  DERIVED. THE GIVEN ROWS OF THIS SEAT. 2 by the template 'for every input the law returns true; each argument reads behind the call as it read before'; 0 by the template 'total and deterministic' (their statements: YtdlcefiandacnaaTotals.lean).
  GIVEN WITH THE SEED: the statements are not yours to turn. If you find one false, say at which input.
  Laid BY PROGRAM, IN A SANDBOX (cutbox-rows.mjs): the forced cells as the released guide's own fill.sh prints them over the translation 53d7531efccc2edf… (all of the seat's roots in one cut). By AI agents, Wed Nov 11 2026. No macro, syntax, notation, axiom, sorry.
-/
import Derived.Test.YtdlcefiandacnaaChecked
import GoSem.Claim
import GoSem.ClaimJoined
import GoSem.ClaimMapViews
import Derived.JoinedTies
import Derived.KernelRfl
namespace Go.Proofs.Ytdlcefiandacnaa
/- THE CELL 'sum', in the pinned program and in every row, IS THE sha256 OF THE DUMP (.gsa) THAT YtdlcefiandacnaaProg.lean LOADS. Nothing in Lean hashes anything: it is a label: what it is worth is what the hold of that sum in a sandbox is worth. -/
noncomputable def Try.pinned : Pinned := { name := "ytdlcefiandacnaa", sum := "53d7531efccc2edfd99b1ba422de7cc3015bfb000611e1e8a35832bcbfc80f02", checked := Try.checked }
namespace Rows
def none {H : Type} : Left H := { results := [], args := [] }

/-- 'loesslaw15.MaskBits': WHATEVER THE INPUT: true; the input reads as it did. -/
def maskBitsSpec : ChangeSpec := { name := "maskBits", fn := fun _ => fun
  | [d1, d2] => { results := [.lit (.bool true)], args := [d1, d2] }
  | _ => none }
def maskBitsRow : OpenClaim := { program := "ytdlcefiandacnaa", sum := "53d7531efccc2edfd99b1ba422de7cc3015bfb000611e1e8a35832bcbfc80f02", func := "loess/loesslaw15.MaskBits", spec := "maskBits", apart := false }
def MaskBitsSaid : Prop := maskBitsRow.holds Try.pinned (OpenSpec.ofChange maskBitsSpec)

/-- ITS FALSE NEIGHBOUR: 'it returns false'. Refute it at one input. -/
def maskBitsWrong : ChangeSpec := { name := "maskBits", fn := fun _ => fun
  | [d1, d2] => { results := [.lit (.bool false)], args := [d1, d2] }
  | _ => none }
def MaskBitsWrongFalsely : Prop := maskBitsRow.holds Try.pinned (OpenSpec.ofChange maskBitsWrong)

/-- 'loesslaw15.MaskRecords': WHATEVER THE INPUT: true; the input reads as it did. -/
def maskRecordsSpec : ChangeSpec := { name := "maskRecords", fn := fun _ => fun
  | [d1, d2, d3] => { results := [.lit (.bool true)], args := [d1, d2, d3] }
  | _ => none }
def maskRecordsRow : OpenClaim := { program := "ytdlcefiandacnaa", sum := "53d7531efccc2edfd99b1ba422de7cc3015bfb000611e1e8a35832bcbfc80f02", func := "loess/loesslaw15.MaskRecords", spec := "maskRecords", unfollowed := true, recurses := true, apart := false }
def MaskRecordsSaid : Prop := maskRecordsRow.holds Try.pinned (OpenSpec.ofChange maskRecordsSpec)

/-- ITS FALSE NEIGHBOUR: 'it returns false'. Refute it at one input. -/
def maskRecordsWrong : ChangeSpec := { name := "maskRecords", fn := fun _ => fun
  | [d1, d2, d3] => { results := [.lit (.bool false)], args := [d1, d2, d3] }
  | _ => none }
def MaskRecordsWrongFalsely : Prop := maskRecordsRow.holds Try.pinned (OpenSpec.ofChange maskRecordsWrong)

/- THE SECOND FORM. 'bulk': how many values and letters a reading holds, each counted each time it is reached (what is shared counts as often as it is met; a slice's spare places count too). A statement '..UptoSaid' is the law's where the arguments, and the package variables that the reading takes, are together of bulk at most 1048576: NARROWER than '..Said'. Prove '..Said' where nothing that the law and all that it calls make is longer than what came in: it says more and counts as full. Else prove '..UptoSaid'. A law counts once. -/
mutual
def uptoBulk {H : Type} : DataW H → Nat
  | .lit (.string bytes) => bytes.length + 1
  | .lit _ => 1
  | .nil => 1
  | .ptr d => uptoBulk d + 1
  | .slice elems spare => uptoBulkAll elems + uptoBulkAll spare + 1
  | .agg parts => uptoBulkAll parts + 1
  | .iface _ d => uptoBulk d + 1
  | .map entries => uptoBulkEntries entries + 1
  | .held _ => 1
def uptoBulkAll {H : Type} : List (DataW H) → Nat
  | [] => 0
  | d :: r => uptoBulk d + uptoBulkAll r
def uptoBulkEntries {H : Type} : List (Lit × DataW H) → Nat
  | [] => 0
  | x :: r => uptoBulkEntry x + uptoBulkEntries r
def uptoBulkEntry {H : Type} : Lit × DataW H → Nat
  | (.string bytes, d) => bytes.length + uptoBulk d + 1
  | (_, d) => uptoBulk d + 1
 end
def uptoSmall : (H : Type) → List (DataW H) → Bool := fun _ ds => decide (uptoBulkAll ds ≤ 1048576)
def OpenSpec.upto (s : _root_.Go.ChangeSpec) : _root_.Go.OpenSpec := { _root_.Go.OpenSpec.ofChange s with cond := some uptoSmall }

/-- 'loesslaw15.MaskBits', WHERE WHAT IT READS IS OF BULK AT MOST 1048576: true; the input reads as it did. -/
def maskBitsUptoRow : OpenClaim := { program := "ytdlcefiandacnaa", sum := "53d7531efccc2edfd99b1ba422de7cc3015bfb000611e1e8a35832bcbfc80f02", func := "loess/loesslaw15.MaskBits", spec := "maskBits", apart := false, narrowed := true }
def MaskBitsUptoSaid : Prop := maskBitsUptoRow.holds Try.pinned (OpenSpec.upto maskBitsSpec)

/-- 'loesslaw15.MaskRecords', WHERE WHAT IT READS IS OF BULK AT MOST 1048576: true; the input reads as it did. -/
def maskRecordsUptoRow : OpenClaim := { program := "ytdlcefiandacnaa", sum := "53d7531efccc2edfd99b1ba422de7cc3015bfb000611e1e8a35832bcbfc80f02", func := "loess/loesslaw15.MaskRecords", spec := "maskRecords", unfollowed := true, recurses := true, apart := false, narrowed := true }
def MaskRecordsUptoSaid : Prop := maskRecordsUptoRow.holds Try.pinned (OpenSpec.upto maskRecordsSpec)

end Rows
end Go.Proofs.Ytdlcefiandacnaa
