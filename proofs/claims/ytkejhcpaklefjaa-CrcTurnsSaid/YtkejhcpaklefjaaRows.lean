/-
  No cell of these rows narrows 'for every input' (looked for: loops, veiled, ifaces, maps, wideKeys, modest, calm, conditions, laid).
  DERIVED. THE GIVEN ROWS OF THIS SEAT. 7 by the template 'for every input the law returns true; each argument reads behind the call as it read before'; 0 by the template 'total and deterministic' (their statements: YtkejhcpaklefjaaTotals.lean).
  GIVEN WITH THE SEED: the statements are not yours to turn. If you find one false, say at which input.
  Laid BY PROGRAM, IN A SANDBOX (cutbox-rows.mjs): the forced cells as the released guide's own fill.sh prints them over the translation 038e585b6d6af426… (all of the seat's roots in one cut). By AI agents, Wed Nov 11 2026. No macro, syntax, notation, axiom, sorry.
-/
import Derived.Test.YtkejhcpaklefjaaChecked
import GoSem.Claim
import GoSem.ClaimJoined
import GoSem.ClaimMapViews
import Derived.JoinedTies
import Derived.KernelRfl
namespace Go.Proofs.Ytkejhcpaklefjaa
/- THE CELL 'sum', in the pinned program and in every row, IS THE sha256 OF THE DUMP (.gsa) THAT YtkejhcpaklefjaaProg.lean LOADS. Nothing in Lean hashes anything: it is a label: what it is worth is what the hold of that sum in a sandbox is worth. -/
noncomputable def Try.pinned : Pinned := { name := "ytkejhcpaklefjaa", sum := "038e585b6d6af42621d61948abed9b296483ca6ff2d639ba2a4b538016200b64", checked := Try.checked }
namespace Rows
def none {H : Type} : Left H := { results := [], args := [] }

/-- 'cenotaphlaw01.CrcOf': WHATEVER THE INPUT: true; the input reads as it did. -/
def crcOfSpec : ChangeSpec := { name := "crcOf", fn := fun _ => fun
  | [d1, d2, d3] => { results := [.lit (.bool true)], args := [d1, d2, d3] }
  | _ => none }
def crcOfRow : OpenClaim := { program := "ytkejhcpaklefjaa", sum := "038e585b6d6af42621d61948abed9b296483ca6ff2d639ba2a4b538016200b64", func := "cenotaph/cenotaphlaw01.CrcOf", spec := "crcOf", inPlace := ["internal/bytealg.IndexByteString", "internal/bytealg.IndexString"], named := ["internal/bytealg.MaxLen"], apart := false }
def CrcOfSaid : Prop := crcOfRow.holds Try.pinned (OpenSpec.ofChange crcOfSpec)

/-- ITS FALSE NEIGHBOUR: 'it returns false'. Refute it at one input. -/
def crcOfWrong : ChangeSpec := { name := "crcOf", fn := fun _ => fun
  | [d1, d2, d3] => { results := [.lit (.bool false)], args := [d1, d2, d3] }
  | _ => none }
def CrcOfWrongFalsely : Prop := crcOfRow.holds Try.pinned (OpenSpec.ofChange crcOfWrong)

/-- 'cenotaphlaw01.CrcText': WHATEVER THE INPUT: true; the input reads as it did. -/
def crcTextSpec : ChangeSpec := { name := "crcText", fn := fun _ => fun
  | [d1, d2] => { results := [.lit (.bool true)], args := [d1, d2] }
  | _ => none }
def crcTextRow : OpenClaim := { program := "ytkejhcpaklefjaa", sum := "038e585b6d6af42621d61948abed9b296483ca6ff2d639ba2a4b538016200b64", func := "cenotaph/cenotaphlaw01.CrcText", spec := "crcText", inPlace := ["internal/bytealg.IndexByteString", "internal/bytealg.IndexString"], named := ["internal/bytealg.MaxLen"], apart := false }
def CrcTextSaid : Prop := crcTextRow.holds Try.pinned (OpenSpec.ofChange crcTextSpec)

/-- ITS FALSE NEIGHBOUR: 'it returns false'. Refute it at one input. -/
def crcTextWrong : ChangeSpec := { name := "crcText", fn := fun _ => fun
  | [d1, d2] => { results := [.lit (.bool false)], args := [d1, d2] }
  | _ => none }
def CrcTextWrongFalsely : Prop := crcTextRow.holds Try.pinned (OpenSpec.ofChange crcTextWrong)

/-- 'cenotaphlaw01.CrcParts': WHATEVER THE INPUT: true; the input reads as it did. -/
def crcPartsSpec : ChangeSpec := { name := "crcParts", fn := fun _ => fun
  | [d1, d2] => { results := [.lit (.bool true)], args := [d1, d2] }
  | _ => none }
def crcPartsRow : OpenClaim := { program := "ytkejhcpaklefjaa", sum := "038e585b6d6af42621d61948abed9b296483ca6ff2d639ba2a4b538016200b64", func := "cenotaph/cenotaphlaw01.CrcParts", spec := "crcParts", inPlace := ["internal/bytealg.IndexByteString", "internal/bytealg.IndexString"], named := ["internal/bytealg.MaxLen"], apart := false }
def CrcPartsSaid : Prop := crcPartsRow.holds Try.pinned (OpenSpec.ofChange crcPartsSpec)

/-- ITS FALSE NEIGHBOUR: 'it returns false'. Refute it at one input. -/
def crcPartsWrong : ChangeSpec := { name := "crcParts", fn := fun _ => fun
  | [d1, d2] => { results := [.lit (.bool false)], args := [d1, d2] }
  | _ => none }
def CrcPartsWrongFalsely : Prop := crcPartsRow.holds Try.pinned (OpenSpec.ofChange crcPartsWrong)

/-- 'cenotaphlaw01.CrcByte': WHATEVER THE INPUT: true; the input reads as it did. -/
def crcByteSpec : ChangeSpec := { name := "crcByte", fn := fun _ => fun
  | [d1, d2, d3, d4] => { results := [.lit (.bool true)], args := [d1, d2, d3, d4] }
  | _ => none }
def crcByteRow : OpenClaim := { program := "ytkejhcpaklefjaa", sum := "038e585b6d6af42621d61948abed9b296483ca6ff2d639ba2a4b538016200b64", func := "cenotaph/cenotaphlaw01.CrcByte", spec := "crcByte", inPlace := ["internal/bytealg.IndexByteString", "internal/bytealg.IndexString"], named := ["internal/bytealg.MaxLen"], apart := false }
def CrcByteSaid : Prop := crcByteRow.holds Try.pinned (OpenSpec.ofChange crcByteSpec)

/-- ITS FALSE NEIGHBOUR: 'it returns false'. Refute it at one input. -/
def crcByteWrong : ChangeSpec := { name := "crcByte", fn := fun _ => fun
  | [d1, d2, d3, d4] => { results := [.lit (.bool false)], args := [d1, d2, d3, d4] }
  | _ => none }
def CrcByteWrongFalsely : Prop := crcByteRow.holds Try.pinned (OpenSpec.ofChange crcByteWrong)

/-- 'cenotaphlaw01.CrcTurns': WHATEVER THE INPUT: true; the input reads as it did. -/
def crcTurnsSpec : ChangeSpec := { name := "crcTurns", fn := fun _ => fun
  | [d1, d2] => { results := [.lit (.bool true)], args := [d1, d2] }
  | _ => none }
def crcTurnsRow : OpenClaim := { program := "ytkejhcpaklefjaa", sum := "038e585b6d6af42621d61948abed9b296483ca6ff2d639ba2a4b538016200b64", func := "cenotaph/cenotaphlaw01.CrcTurns", spec := "crcTurns", inPlace := ["internal/bytealg.IndexByteString", "internal/bytealg.IndexString"], named := ["internal/bytealg.MaxLen"], apart := false }
def CrcTurnsSaid : Prop := crcTurnsRow.holds Try.pinned (OpenSpec.ofChange crcTurnsSpec)

/-- ITS FALSE NEIGHBOUR: 'it returns false'. Refute it at one input. -/
def crcTurnsWrong : ChangeSpec := { name := "crcTurns", fn := fun _ => fun
  | [d1, d2] => { results := [.lit (.bool false)], args := [d1, d2] }
  | _ => none }
def CrcTurnsWrongFalsely : Prop := crcTurnsRow.holds Try.pinned (OpenSpec.ofChange crcTurnsWrong)

/-- 'cenotaphlaw01.CrcSteps': WHATEVER THE INPUT: true; the input reads as it did. -/
def crcStepsSpec : ChangeSpec := { name := "crcSteps", fn := fun _ => fun
  | [d] => { results := [.lit (.bool true)], args := [d] }
  | _ => none }
def crcStepsRow : OpenClaim := { program := "ytkejhcpaklefjaa", sum := "038e585b6d6af42621d61948abed9b296483ca6ff2d639ba2a4b538016200b64", func := "cenotaph/cenotaphlaw01.CrcSteps", spec := "crcSteps", inPlace := ["internal/bytealg.IndexByteString", "internal/bytealg.IndexString"], named := ["internal/bytealg.MaxLen"], apart := false }
def CrcStepsSaid : Prop := crcStepsRow.holds Try.pinned (OpenSpec.ofChange crcStepsSpec)

/-- ITS FALSE NEIGHBOUR: 'it returns false'. Refute it at one input. -/
def crcStepsWrong : ChangeSpec := { name := "crcSteps", fn := fun _ => fun
  | [d] => { results := [.lit (.bool false)], args := [d] }
  | _ => none }
def CrcStepsWrongFalsely : Prop := crcStepsRow.holds Try.pinned (OpenSpec.ofChange crcStepsWrong)

/-- 'cenotaphlaw01.CrcBehind': WHATEVER THE INPUT: true; the input reads as it did. -/
def crcBehindSpec : ChangeSpec := { name := "crcBehind", fn := fun _ => fun
  | [d] => { results := [.lit (.bool true)], args := [d] }
  | _ => none }
def crcBehindRow : OpenClaim := { program := "ytkejhcpaklefjaa", sum := "038e585b6d6af42621d61948abed9b296483ca6ff2d639ba2a4b538016200b64", func := "cenotaph/cenotaphlaw01.CrcBehind", spec := "crcBehind", inPlace := ["internal/bytealg.IndexByteString", "internal/bytealg.IndexString"], named := ["internal/bytealg.MaxLen"], apart := false }
def CrcBehindSaid : Prop := crcBehindRow.holds Try.pinned (OpenSpec.ofChange crcBehindSpec)

/-- ITS FALSE NEIGHBOUR: 'it returns false'. Refute it at one input. -/
def crcBehindWrong : ChangeSpec := { name := "crcBehind", fn := fun _ => fun
  | [d] => { results := [.lit (.bool false)], args := [d] }
  | _ => none }
def CrcBehindWrongFalsely : Prop := crcBehindRow.holds Try.pinned (OpenSpec.ofChange crcBehindWrong)

/- THE SECOND FORM. 'bulk': how many values and letters a reading holds, each counted each time it is reached (what is shared counts as often as it is met; a slice's spare places count too). A statement '..UptoSaid' is the law's where the arguments, and the package variables that the reading takes, are together of bulk at most 1048576: NARROWER than '..Said'. Prove '..Said' where nothing that the law and all that it calls make is longer than what came in: it says more and counts as full. Else prove '..UptoSaid'. A law counts once. -/
mutual
def uptoBulk {H : Type} : DataW H → Nat
  | .lit (.string bytes) => bytes.length + 1
  | .lit _ => 1
  | .nil => 1
  | .ptr d => uptoBulk d + 1
  | .slice elems spare => uptoBulkAll elems + uptoBulkAll spare + 1
  | .agg parts => uptoBulkAll parts + 1
  | .iface _ d => uptoBulk d + 1
  | .map entries => uptoBulkEntries entries + 1
  | .held _ => 1
def uptoBulkAll {H : Type} : List (DataW H) → Nat
  | [] => 0
  | d :: r => uptoBulk d + uptoBulkAll r
def uptoBulkEntries {H : Type} : List (Lit × DataW H) → Nat
  | [] => 0
  | x :: r => uptoBulkEntry x + uptoBulkEntries r
def uptoBulkEntry {H : Type} : Lit × DataW H → Nat
  | (.string bytes, d) => bytes.length + uptoBulk d + 1
  | (_, d) => uptoBulk d + 1
 end
def uptoSmall : (H : Type) → List (DataW H) → Bool := fun _ ds => decide (uptoBulkAll ds ≤ 1048576)
def OpenSpec.upto (s : _root_.Go.ChangeSpec) : _root_.Go.OpenSpec := { _root_.Go.OpenSpec.ofChange s with cond := some uptoSmall }

/-- 'cenotaphlaw01.CrcOf', WHERE WHAT IT READS IS OF BULK AT MOST 1048576: true; the input reads as it did. -/
def crcOfUptoRow : OpenClaim := { program := "ytkejhcpaklefjaa", sum := "038e585b6d6af42621d61948abed9b296483ca6ff2d639ba2a4b538016200b64", func := "cenotaph/cenotaphlaw01.CrcOf", spec := "crcOf", inPlace := ["internal/bytealg.IndexByteString", "internal/bytealg.IndexString"], named := ["internal/bytealg.MaxLen"], apart := false, narrowed := true }
def CrcOfUptoSaid : Prop := crcOfUptoRow.holds Try.pinned (OpenSpec.upto crcOfSpec)

/-- 'cenotaphlaw01.CrcText', WHERE WHAT IT READS IS OF BULK AT MOST 1048576: true; the input reads as it did. -/
def crcTextUptoRow : OpenClaim := { program := "ytkejhcpaklefjaa", sum := "038e585b6d6af42621d61948abed9b296483ca6ff2d639ba2a4b538016200b64", func := "cenotaph/cenotaphlaw01.CrcText", spec := "crcText", inPlace := ["internal/bytealg.IndexByteString", "internal/bytealg.IndexString"], named := ["internal/bytealg.MaxLen"], apart := false, narrowed := true }
def CrcTextUptoSaid : Prop := crcTextUptoRow.holds Try.pinned (OpenSpec.upto crcTextSpec)

/-- 'cenotaphlaw01.CrcParts', WHERE WHAT IT READS IS OF BULK AT MOST 1048576: true; the input reads as it did. -/
def crcPartsUptoRow : OpenClaim := { program := "ytkejhcpaklefjaa", sum := "038e585b6d6af42621d61948abed9b296483ca6ff2d639ba2a4b538016200b64", func := "cenotaph/cenotaphlaw01.CrcParts", spec := "crcParts", inPlace := ["internal/bytealg.IndexByteString", "internal/bytealg.IndexString"], named := ["internal/bytealg.MaxLen"], apart := false, narrowed := true }
def CrcPartsUptoSaid : Prop := crcPartsUptoRow.holds Try.pinned (OpenSpec.upto crcPartsSpec)

/-- 'cenotaphlaw01.CrcByte', WHERE WHAT IT READS IS OF BULK AT MOST 1048576: true; the input reads as it did. -/
def crcByteUptoRow : OpenClaim := { program := "ytkejhcpaklefjaa", sum := "038e585b6d6af42621d61948abed9b296483ca6ff2d639ba2a4b538016200b64", func := "cenotaph/cenotaphlaw01.CrcByte", spec := "crcByte", inPlace := ["internal/bytealg.IndexByteString", "internal/bytealg.IndexString"], named := ["internal/bytealg.MaxLen"], apart := false, narrowed := true }
def CrcByteUptoSaid : Prop := crcByteUptoRow.holds Try.pinned (OpenSpec.upto crcByteSpec)

/-- 'cenotaphlaw01.CrcTurns', WHERE WHAT IT READS IS OF BULK AT MOST 1048576: true; the input reads as it did. -/
def crcTurnsUptoRow : OpenClaim := { program := "ytkejhcpaklefjaa", sum := "038e585b6d6af42621d61948abed9b296483ca6ff2d639ba2a4b538016200b64", func := "cenotaph/cenotaphlaw01.CrcTurns", spec := "crcTurns", inPlace := ["internal/bytealg.IndexByteString", "internal/bytealg.IndexString"], named := ["internal/bytealg.MaxLen"], apart := false, narrowed := true }
def CrcTurnsUptoSaid : Prop := crcTurnsUptoRow.holds Try.pinned (OpenSpec.upto crcTurnsSpec)

/-- 'cenotaphlaw01.CrcSteps', WHERE WHAT IT READS IS OF BULK AT MOST 1048576: true; the input reads as it did. -/
def crcStepsUptoRow : OpenClaim := { program := "ytkejhcpaklefjaa", sum := "038e585b6d6af42621d61948abed9b296483ca6ff2d639ba2a4b538016200b64", func := "cenotaph/cenotaphlaw01.CrcSteps", spec := "crcSteps", inPlace := ["internal/bytealg.IndexByteString", "internal/bytealg.IndexString"], named := ["internal/bytealg.MaxLen"], apart := false, narrowed := true }
def CrcStepsUptoSaid : Prop := crcStepsUptoRow.holds Try.pinned (OpenSpec.upto crcStepsSpec)

/-- 'cenotaphlaw01.CrcBehind', WHERE WHAT IT READS IS OF BULK AT MOST 1048576: true; the input reads as it did. -/
def crcBehindUptoRow : OpenClaim := { program := "ytkejhcpaklefjaa", sum := "038e585b6d6af42621d61948abed9b296483ca6ff2d639ba2a4b538016200b64", func := "cenotaph/cenotaphlaw01.CrcBehind", spec := "crcBehind", inPlace := ["internal/bytealg.IndexByteString", "internal/bytealg.IndexString"], named := ["internal/bytealg.MaxLen"], apart := false, narrowed := true }
def CrcBehindUptoSaid : Prop := crcBehindUptoRow.holds Try.pinned (OpenSpec.upto crcBehindSpec)

end Rows
end Go.Proofs.Ytkejhcpaklefjaa
