/-
  No cell of these rows narrows 'for every input' (looked for: loops, veiled, ifaces, maps, wideKeys, modest, calm, conditions, laid).
  DERIVED. THE GIVEN ROWS OF THIS SEAT. 6 by the template 'for every input the law returns true; each argument reads behind the call as it read before'; 0 by the template 'total and deterministic' (their statements: YtfjnjhlmmdeilaaTotals.lean).
  GIVEN WITH THE SEED: the statements are not yours to turn. If you find one false, say at which input.
  Laid BY PROGRAM, IN A SANDBOX (cutbox-rows.mjs): the forced cells as the released guide's own fill.sh prints them over the translation 330b633ca1791a91… (all of the seat's roots in one cut). By AI agents, Wed Nov 11 2026. No macro, syntax, notation, axiom, sorry.
-/
import Derived.Test.YtfjnjhlmmdeilaaChecked
import GoSem.Claim
import GoSem.ClaimJoined
import GoSem.ClaimMapViews
import Derived.JoinedTies
import Derived.KernelRfl
namespace Go.Proofs.Ytfjnjhlmmdeilaa
/- THE CELL 'sum', in the pinned program and in every row, IS THE sha256 OF THE DUMP (.gsa) THAT YtfjnjhlmmdeilaaProg.lean LOADS. Nothing in Lean hashes anything: it is a label: what it is worth is what the hold of that sum in a sandbox is worth. -/
noncomputable def Try.pinned : Pinned := { name := "ytfjnjhlmmdeilaa", sum := "330b633ca1791a91df659ec12c4f79a2b6a0c0faa443cca4c118c042bcccf18d", checked := Try.checked }
namespace Rows
def none {H : Type} : Left H := { results := [], args := [] }

/-- 'cenotaphlaw13.ChipWears': WHATEVER THE INPUT: true; the input reads as it did. -/
def chipWearsSpec : ChangeSpec := { name := "chipWears", fn := fun _ => fun
  | [d] => { results := [.lit (.bool true)], args := [d] }
  | _ => none }
def chipWearsRow : OpenClaim := { program := "ytfjnjhlmmdeilaa", sum := "330b633ca1791a91df659ec12c4f79a2b6a0c0faa443cca4c118c042bcccf18d", func := "cenotaph/cenotaphlaw13.ChipWears", spec := "chipWears", unfollowed := true, recurses := true, apart := false }
def ChipWearsSaid : Prop := chipWearsRow.holds Try.pinned (OpenSpec.ofChange chipWearsSpec)

/-- ITS FALSE NEIGHBOUR: 'it returns false'. Refute it at one input. -/
def chipWearsWrong : ChangeSpec := { name := "chipWears", fn := fun _ => fun
  | [d] => { results := [.lit (.bool false)], args := [d] }
  | _ => none }
def ChipWearsWrongFalsely : Prop := chipWearsRow.holds Try.pinned (OpenSpec.ofChange chipWearsWrong)

/-- 'cenotaphlaw13.ChipFills': WHATEVER THE INPUT: true; the input reads as it did. -/
def chipFillsSpec : ChangeSpec := { name := "chipFills", fn := fun _ => fun
  | [d1, d2] => { results := [.lit (.bool true)], args := [d1, d2] }
  | _ => none }
def chipFillsRow : OpenClaim := { program := "ytfjnjhlmmdeilaa", sum := "330b633ca1791a91df659ec12c4f79a2b6a0c0faa443cca4c118c042bcccf18d", func := "cenotaph/cenotaphlaw13.ChipFills", spec := "chipFills", unfollowed := true, recurses := true, apart := false }
def ChipFillsSaid : Prop := chipFillsRow.holds Try.pinned (OpenSpec.ofChange chipFillsSpec)

/-- ITS FALSE NEIGHBOUR: 'it returns false'. Refute it at one input. -/
def chipFillsWrong : ChangeSpec := { name := "chipFills", fn := fun _ => fun
  | [d1, d2] => { results := [.lit (.bool false)], args := [d1, d2] }
  | _ => none }
def ChipFillsWrongFalsely : Prop := chipFillsRow.holds Try.pinned (OpenSpec.ofChange chipFillsWrong)

/-- 'cenotaphlaw13.ChipFuse': WHATEVER THE INPUT: true; the input reads as it did. -/
def chipFuseSpec : ChangeSpec := { name := "chipFuse", fn := fun _ => fun
  | [d1, d2, d3] => { results := [.lit (.bool true)], args := [d1, d2, d3] }
  | _ => none }
def chipFuseRow : OpenClaim := { program := "ytfjnjhlmmdeilaa", sum := "330b633ca1791a91df659ec12c4f79a2b6a0c0faa443cca4c118c042bcccf18d", func := "cenotaph/cenotaphlaw13.ChipFuse", spec := "chipFuse", unfollowed := true, recurses := true, apart := false }
def ChipFuseSaid : Prop := chipFuseRow.holds Try.pinned (OpenSpec.ofChange chipFuseSpec)

/-- ITS FALSE NEIGHBOUR: 'it returns false'. Refute it at one input. -/
def chipFuseWrong : ChangeSpec := { name := "chipFuse", fn := fun _ => fun
  | [d1, d2, d3] => { results := [.lit (.bool false)], args := [d1, d2, d3] }
  | _ => none }
def ChipFuseWrongFalsely : Prop := chipFuseRow.holds Try.pinned (OpenSpec.ofChange chipFuseWrong)

/-- 'cenotaphlaw13.ChipDoes': WHATEVER THE INPUT: true; the input reads as it did. -/
def chipDoesSpec : ChangeSpec := { name := "chipDoes", fn := fun _ => fun
  | [d1, d2, d3, d4] => { results := [.lit (.bool true)], args := [d1, d2, d3, d4] }
  | _ => none }
def chipDoesRow : OpenClaim := { program := "ytfjnjhlmmdeilaa", sum := "330b633ca1791a91df659ec12c4f79a2b6a0c0faa443cca4c118c042bcccf18d", func := "cenotaph/cenotaphlaw13.ChipDoes", spec := "chipDoes", unfollowed := true, recurses := true, apart := false }
def ChipDoesSaid : Prop := chipDoesRow.holds Try.pinned (OpenSpec.ofChange chipDoesSpec)

/-- ITS FALSE NEIGHBOUR: 'it returns false'. Refute it at one input. -/
def chipDoesWrong : ChangeSpec := { name := "chipDoes", fn := fun _ => fun
  | [d1, d2, d3, d4] => { results := [.lit (.bool false)], args := [d1, d2, d3, d4] }
  | _ => none }
def ChipDoesWrongFalsely : Prop := chipDoesRow.holds Try.pinned (OpenSpec.ofChange chipDoesWrong)

/-- 'cenotaphlaw13.ChipKeeps': WHATEVER THE INPUT: true; the input reads as it did. -/
def chipKeepsSpec : ChangeSpec := { name := "chipKeeps", fn := fun _ => fun
  | [d1, d2, d3, d4] => { results := [.lit (.bool true)], args := [d1, d2, d3, d4] }
  | _ => none }
def chipKeepsRow : OpenClaim := { program := "ytfjnjhlmmdeilaa", sum := "330b633ca1791a91df659ec12c4f79a2b6a0c0faa443cca4c118c042bcccf18d", func := "cenotaph/cenotaphlaw13.ChipKeeps", spec := "chipKeeps", unfollowed := true, recurses := true, apart := false }
def ChipKeepsSaid : Prop := chipKeepsRow.holds Try.pinned (OpenSpec.ofChange chipKeepsSpec)

/-- ITS FALSE NEIGHBOUR: 'it returns false'. Refute it at one input. -/
def chipKeepsWrong : ChangeSpec := { name := "chipKeeps", fn := fun _ => fun
  | [d1, d2, d3, d4] => { results := [.lit (.bool false)], args := [d1, d2, d3, d4] }
  | _ => none }
def ChipKeepsWrongFalsely : Prop := chipKeepsRow.holds Try.pinned (OpenSpec.ofChange chipKeepsWrong)

/-- 'cenotaphlaw13.ChipBad': WHATEVER THE INPUT: true; the input reads as it did. -/
def chipBadSpec : ChangeSpec := { name := "chipBad", fn := fun _ => fun
  | [d1, d2] => { results := [.lit (.bool true)], args := [d1, d2] }
  | _ => none }
def chipBadRow : OpenClaim := { program := "ytfjnjhlmmdeilaa", sum := "330b633ca1791a91df659ec12c4f79a2b6a0c0faa443cca4c118c042bcccf18d", func := "cenotaph/cenotaphlaw13.ChipBad", spec := "chipBad", unfollowed := true, recurses := true, apart := false }
def ChipBadSaid : Prop := chipBadRow.holds Try.pinned (OpenSpec.ofChange chipBadSpec)

/-- ITS FALSE NEIGHBOUR: 'it returns false'. Refute it at one input. -/
def chipBadWrong : ChangeSpec := { name := "chipBad", fn := fun _ => fun
  | [d1, d2] => { results := [.lit (.bool false)], args := [d1, d2] }
  | _ => none }
def ChipBadWrongFalsely : Prop := chipBadRow.holds Try.pinned (OpenSpec.ofChange chipBadWrong)

/- THE SECOND FORM. 'bulk': how many values and letters a reading holds, each counted each time it is reached (what is shared counts as often as it is met; a slice's spare places count too). A statement '..UptoSaid' is the law's where the arguments, and the package variables that the reading takes, are together of bulk at most 1048576: NARROWER than '..Said'. Prove '..Said' where nothing that the law and all that it calls make is longer than what came in: it says more and counts as full. Else prove '..UptoSaid'. A law counts once. -/
mutual
def uptoBulk {H : Type} : DataW H → Nat
  | .lit (.string bytes) => bytes.length + 1
  | .lit _ => 1
  | .nil => 1
  | .ptr d => uptoBulk d + 1
  | .slice elems spare => uptoBulkAll elems + uptoBulkAll spare + 1
  | .agg parts => uptoBulkAll parts + 1
  | .iface _ d => uptoBulk d + 1
  | .map entries => uptoBulkEntries entries + 1
  | .held _ => 1
def uptoBulkAll {H : Type} : List (DataW H) → Nat
  | [] => 0
  | d :: r => uptoBulk d + uptoBulkAll r
def uptoBulkEntries {H : Type} : List (Lit × DataW H) → Nat
  | [] => 0
  | x :: r => uptoBulkEntry x + uptoBulkEntries r
def uptoBulkEntry {H : Type} : Lit × DataW H → Nat
  | (.string bytes, d) => bytes.length + uptoBulk d + 1
  | (_, d) => uptoBulk d + 1
 end
def uptoSmall : (H : Type) → List (DataW H) → Bool := fun _ ds => decide (uptoBulkAll ds ≤ 1048576)
def OpenSpec.upto (s : _root_.Go.ChangeSpec) : _root_.Go.OpenSpec := { _root_.Go.OpenSpec.ofChange s with cond := some uptoSmall }

/-- 'cenotaphlaw13.ChipWears', WHERE WHAT IT READS IS OF BULK AT MOST 1048576: true; the input reads as it did. -/
def chipWearsUptoRow : OpenClaim := { program := "ytfjnjhlmmdeilaa", sum := "330b633ca1791a91df659ec12c4f79a2b6a0c0faa443cca4c118c042bcccf18d", func := "cenotaph/cenotaphlaw13.ChipWears", spec := "chipWears", unfollowed := true, recurses := true, apart := false, narrowed := true }
def ChipWearsUptoSaid : Prop := chipWearsUptoRow.holds Try.pinned (OpenSpec.upto chipWearsSpec)

/-- 'cenotaphlaw13.ChipFills', WHERE WHAT IT READS IS OF BULK AT MOST 1048576: true; the input reads as it did. -/
def chipFillsUptoRow : OpenClaim := { program := "ytfjnjhlmmdeilaa", sum := "330b633ca1791a91df659ec12c4f79a2b6a0c0faa443cca4c118c042bcccf18d", func := "cenotaph/cenotaphlaw13.ChipFills", spec := "chipFills", unfollowed := true, recurses := true, apart := false, narrowed := true }
def ChipFillsUptoSaid : Prop := chipFillsUptoRow.holds Try.pinned (OpenSpec.upto chipFillsSpec)

/-- 'cenotaphlaw13.ChipFuse', WHERE WHAT IT READS IS OF BULK AT MOST 1048576: true; the input reads as it did. -/
def chipFuseUptoRow : OpenClaim := { program := "ytfjnjhlmmdeilaa", sum := "330b633ca1791a91df659ec12c4f79a2b6a0c0faa443cca4c118c042bcccf18d", func := "cenotaph/cenotaphlaw13.ChipFuse", spec := "chipFuse", unfollowed := true, recurses := true, apart := false, narrowed := true }
def ChipFuseUptoSaid : Prop := chipFuseUptoRow.holds Try.pinned (OpenSpec.upto chipFuseSpec)

/-- 'cenotaphlaw13.ChipDoes', WHERE WHAT IT READS IS OF BULK AT MOST 1048576: true; the input reads as it did. -/
def chipDoesUptoRow : OpenClaim := { program := "ytfjnjhlmmdeilaa", sum := "330b633ca1791a91df659ec12c4f79a2b6a0c0faa443cca4c118c042bcccf18d", func := "cenotaph/cenotaphlaw13.ChipDoes", spec := "chipDoes", unfollowed := true, recurses := true, apart := false, narrowed := true }
def ChipDoesUptoSaid : Prop := chipDoesUptoRow.holds Try.pinned (OpenSpec.upto chipDoesSpec)

/-- 'cenotaphlaw13.ChipKeeps', WHERE WHAT IT READS IS OF BULK AT MOST 1048576: true; the input reads as it did. -/
def chipKeepsUptoRow : OpenClaim := { program := "ytfjnjhlmmdeilaa", sum := "330b633ca1791a91df659ec12c4f79a2b6a0c0faa443cca4c118c042bcccf18d", func := "cenotaph/cenotaphlaw13.ChipKeeps", spec := "chipKeeps", unfollowed := true, recurses := true, apart := false, narrowed := true }
def ChipKeepsUptoSaid : Prop := chipKeepsUptoRow.holds Try.pinned (OpenSpec.upto chipKeepsSpec)

/-- 'cenotaphlaw13.ChipBad', WHERE WHAT IT READS IS OF BULK AT MOST 1048576: true; the input reads as it did. -/
def chipBadUptoRow : OpenClaim := { program := "ytfjnjhlmmdeilaa", sum := "330b633ca1791a91df659ec12c4f79a2b6a0c0faa443cca4c118c042bcccf18d", func := "cenotaph/cenotaphlaw13.ChipBad", spec := "chipBad", unfollowed := true, recurses := true, apart := false, narrowed := true }
def ChipBadUptoSaid : Prop := chipBadUptoRow.holds Try.pinned (OpenSpec.upto chipBadSpec)

end Rows
end Go.Proofs.Ytfjnjhlmmdeilaa
