/-
  No cell of these rows narrows 'for every input' (looked for: loops, veiled, ifaces, maps, wideKeys, modest, calm, conditions, laid).
  DERIVED. THE GIVEN ROWS OF THIS SEAT. 12 by the template 'for every input the law returns true; each argument reads behind the call as it read before'; 0 by the template 'total and deterministic' (their statements: YtdocahjdpikakaaTotals.lean).
  GIVEN WITH THE SEED: the statements are not yours to turn. If you find one false, say at which input.
  Laid BY PROGRAM, IN A SANDBOX (cutbox-rows.mjs): the forced cells as the released guide's own fill.sh prints them over the translation 733b2f7e52322359… (all of the seat's roots in one cut). By AI agents, Wed Nov 11 2026. No macro, syntax, notation, axiom, sorry.
-/
import Derived.Test.YtdocahjdpikakaaChecked
import GoSem.Claim
import GoSem.ClaimJoined
import GoSem.ClaimMapViews
import Derived.JoinedTies
import Derived.KernelRfl
namespace Go.Proofs.Ytdocahjdpikakaa
/- THE CELL 'sum', in the pinned program and in every row, IS THE sha256 OF THE DUMP (.gsa) THAT YtdocahjdpikakaaProg.lean LOADS. Nothing in Lean hashes anything: it is a label: what it is worth is what the hold of that sum in a sandbox is worth. -/
noncomputable def Try.pinned : Pinned := { name := "ytdocahjdpikakaa", sum := "733b2f7e52322359dcc5a904410691884d98d2f107a640472f89b5df89ab915f", checked := Try.checked }
namespace Rows
def none {H : Type} : Left H := { results := [], args := [] }

/-- 'laws.FnExactPackOk': WHATEVER THE INPUT: true; the input reads as it did. -/
def fnExactPackOkSpec : ChangeSpec := { name := "fnExactPackOk", fn := fun _ => fun
  | [d1, d2] => { results := [.lit (.bool true)], args := [d1, d2] }
  | _ => none }
def fnExactPackOkRow : OpenClaim := { program := "ytdocahjdpikakaa", sum := "733b2f7e52322359dcc5a904410691884d98d2f107a640472f89b5df89ab915f", func := "loop.example/g00033/laws.FnExactPackOk", spec := "fnExactPackOk", apart := false }
def FnExactPackOkSaid : Prop := fnExactPackOkRow.holds Try.pinned (OpenSpec.ofChange fnExactPackOkSpec)

/-- ITS FALSE NEIGHBOUR: 'it returns false'. Refute it at one input. -/
def fnExactPackOkWrong : ChangeSpec := { name := "fnExactPackOk", fn := fun _ => fun
  | [d1, d2] => { results := [.lit (.bool false)], args := [d1, d2] }
  | _ => none }
def FnExactPackOkWrongFalsely : Prop := fnExactPackOkRow.holds Try.pinned (OpenSpec.ofChange fnExactPackOkWrong)

/-- 'laws.FnExactFeedOk': WHATEVER THE INPUT: true; the input reads as it did. -/
def fnExactFeedOkSpec : ChangeSpec := { name := "fnExactFeedOk", fn := fun _ => fun
  | [d] => { results := [.lit (.bool true)], args := [d] }
  | _ => none }
def fnExactFeedOkRow : OpenClaim := { program := "ytdocahjdpikakaa", sum := "733b2f7e52322359dcc5a904410691884d98d2f107a640472f89b5df89ab915f", func := "loop.example/g00033/laws.FnExactFeedOk", spec := "fnExactFeedOk", apart := false }
def FnExactFeedOkSaid : Prop := fnExactFeedOkRow.holds Try.pinned (OpenSpec.ofChange fnExactFeedOkSpec)

/-- ITS FALSE NEIGHBOUR: 'it returns false'. Refute it at one input. -/
def fnExactFeedOkWrong : ChangeSpec := { name := "fnExactFeedOk", fn := fun _ => fun
  | [d] => { results := [.lit (.bool false)], args := [d] }
  | _ => none }
def FnExactFeedOkWrongFalsely : Prop := fnExactFeedOkRow.holds Try.pinned (OpenSpec.ofChange fnExactFeedOkWrong)

/-- 'laws.FnExactValue': WHATEVER THE INPUT: true; the input reads as it did. -/
def fnExactValueSpec : ChangeSpec := { name := "fnExactValue", fn := fun _ => fun
  | [d1, d2] => { results := [.lit (.bool true)], args := [d1, d2] }
  | _ => none }
def fnExactValueRow : OpenClaim := { program := "ytdocahjdpikakaa", sum := "733b2f7e52322359dcc5a904410691884d98d2f107a640472f89b5df89ab915f", func := "loop.example/g00033/laws.FnExactValue", spec := "fnExactValue", apart := false }
def FnExactValueSaid : Prop := fnExactValueRow.holds Try.pinned (OpenSpec.ofChange fnExactValueSpec)

/-- ITS FALSE NEIGHBOUR: 'it returns false'. Refute it at one input. -/
def fnExactValueWrong : ChangeSpec := { name := "fnExactValue", fn := fun _ => fun
  | [d1, d2] => { results := [.lit (.bool false)], args := [d1, d2] }
  | _ => none }
def FnExactValueWrongFalsely : Prop := fnExactValueRow.holds Try.pinned (OpenSpec.ofChange fnExactValueWrong)

/-- 'laws.FnExactBelow': WHATEVER THE INPUT: true; the input reads as it did. -/
def fnExactBelowSpec : ChangeSpec := { name := "fnExactBelow", fn := fun _ => fun
  | [d1, d2] => { results := [.lit (.bool true)], args := [d1, d2] }
  | _ => none }
def fnExactBelowRow : OpenClaim := { program := "ytdocahjdpikakaa", sum := "733b2f7e52322359dcc5a904410691884d98d2f107a640472f89b5df89ab915f", func := "loop.example/g00033/laws.FnExactBelow", spec := "fnExactBelow", apart := false }
def FnExactBelowSaid : Prop := fnExactBelowRow.holds Try.pinned (OpenSpec.ofChange fnExactBelowSpec)

/-- ITS FALSE NEIGHBOUR: 'it returns false'. Refute it at one input. -/
def fnExactBelowWrong : ChangeSpec := { name := "fnExactBelow", fn := fun _ => fun
  | [d1, d2] => { results := [.lit (.bool false)], args := [d1, d2] }
  | _ => none }
def FnExactBelowWrongFalsely : Prop := fnExactBelowRow.holds Try.pinned (OpenSpec.ofChange fnExactBelowWrong)

/-- 'laws.FnExactBound': WHATEVER THE INPUT: true; the input reads as it did. -/
def fnExactBoundSpec : ChangeSpec := { name := "fnExactBound", fn := fun _ => fun
  | [d1, d2, d3, d4, d5, d6] => { results := [.lit (.bool true)], args := [d1, d2, d3, d4, d5, d6] }
  | _ => none }
def fnExactBoundRow : OpenClaim := { program := "ytdocahjdpikakaa", sum := "733b2f7e52322359dcc5a904410691884d98d2f107a640472f89b5df89ab915f", func := "loop.example/g00033/laws.FnExactBound", spec := "fnExactBound", apart := false }
def FnExactBoundSaid : Prop := fnExactBoundRow.holds Try.pinned (OpenSpec.ofChange fnExactBoundSpec)

/-- ITS FALSE NEIGHBOUR: 'it returns false'. Refute it at one input. -/
def fnExactBoundWrong : ChangeSpec := { name := "fnExactBound", fn := fun _ => fun
  | [d1, d2, d3, d4, d5, d6] => { results := [.lit (.bool false)], args := [d1, d2, d3, d4, d5, d6] }
  | _ => none }
def FnExactBoundWrongFalsely : Prop := fnExactBoundRow.holds Try.pinned (OpenSpec.ofChange fnExactBoundWrong)

/-- 'laws.FnExactShift': WHATEVER THE INPUT: true; the input reads as it did. -/
def fnExactShiftSpec : ChangeSpec := { name := "fnExactShift", fn := fun _ => fun
  | [d1, d2] => { results := [.lit (.bool true)], args := [d1, d2] }
  | _ => none }
def fnExactShiftRow : OpenClaim := { program := "ytdocahjdpikakaa", sum := "733b2f7e52322359dcc5a904410691884d98d2f107a640472f89b5df89ab915f", func := "loop.example/g00033/laws.FnExactShift", spec := "fnExactShift", apart := false }
def FnExactShiftSaid : Prop := fnExactShiftRow.holds Try.pinned (OpenSpec.ofChange fnExactShiftSpec)

/-- ITS FALSE NEIGHBOUR: 'it returns false'. Refute it at one input. -/
def fnExactShiftWrong : ChangeSpec := { name := "fnExactShift", fn := fun _ => fun
  | [d1, d2] => { results := [.lit (.bool false)], args := [d1, d2] }
  | _ => none }
def FnExactShiftWrongFalsely : Prop := fnExactShiftRow.holds Try.pinned (OpenSpec.ofChange fnExactShiftWrong)

/-- 'laws.FnExactRuleOk': WHATEVER THE INPUT: true; the input reads as it did. -/
def fnExactRuleOkSpec : ChangeSpec := { name := "fnExactRuleOk", fn := fun _ => fun
  | [d] => { results := [.lit (.bool true)], args := [d] }
  | _ => none }
def fnExactRuleOkRow : OpenClaim := { program := "ytdocahjdpikakaa", sum := "733b2f7e52322359dcc5a904410691884d98d2f107a640472f89b5df89ab915f", func := "loop.example/g00033/laws.FnExactRuleOk", spec := "fnExactRuleOk", apart := false }
def FnExactRuleOkSaid : Prop := fnExactRuleOkRow.holds Try.pinned (OpenSpec.ofChange fnExactRuleOkSpec)

/-- ITS FALSE NEIGHBOUR: 'it returns false'. Refute it at one input. -/
def fnExactRuleOkWrong : ChangeSpec := { name := "fnExactRuleOk", fn := fun _ => fun
  | [d] => { results := [.lit (.bool false)], args := [d] }
  | _ => none }
def FnExactRuleOkWrongFalsely : Prop := fnExactRuleOkRow.holds Try.pinned (OpenSpec.ofChange fnExactRuleOkWrong)

/-- 'laws.FnExactResize': WHATEVER THE INPUT: true; the input reads as it did. -/
def fnExactResizeSpec : ChangeSpec := { name := "fnExactResize", fn := fun _ => fun
  | [d1, d2] => { results := [.lit (.bool true)], args := [d1, d2] }
  | _ => none }
def fnExactResizeRow : OpenClaim := { program := "ytdocahjdpikakaa", sum := "733b2f7e52322359dcc5a904410691884d98d2f107a640472f89b5df89ab915f", func := "loop.example/g00033/laws.FnExactResize", spec := "fnExactResize", apart := false }
def FnExactResizeSaid : Prop := fnExactResizeRow.holds Try.pinned (OpenSpec.ofChange fnExactResizeSpec)

/-- ITS FALSE NEIGHBOUR: 'it returns false'. Refute it at one input. -/
def fnExactResizeWrong : ChangeSpec := { name := "fnExactResize", fn := fun _ => fun
  | [d1, d2] => { results := [.lit (.bool false)], args := [d1, d2] }
  | _ => none }
def FnExactResizeWrongFalsely : Prop := fnExactResizeRow.holds Try.pinned (OpenSpec.ofChange fnExactResizeWrong)

/-- 'laws.FnExactSkip': WHATEVER THE INPUT: true; the input reads as it did. -/
def fnExactSkipSpec : ChangeSpec := { name := "fnExactSkip", fn := fun _ => fun
  | [d1, d2] => { results := [.lit (.bool true)], args := [d1, d2] }
  | _ => none }
def fnExactSkipRow : OpenClaim := { program := "ytdocahjdpikakaa", sum := "733b2f7e52322359dcc5a904410691884d98d2f107a640472f89b5df89ab915f", func := "loop.example/g00033/laws.FnExactSkip", spec := "fnExactSkip", apart := false }
def FnExactSkipSaid : Prop := fnExactSkipRow.holds Try.pinned (OpenSpec.ofChange fnExactSkipSpec)

/-- ITS FALSE NEIGHBOUR: 'it returns false'. Refute it at one input. -/
def fnExactSkipWrong : ChangeSpec := { name := "fnExactSkip", fn := fun _ => fun
  | [d1, d2] => { results := [.lit (.bool false)], args := [d1, d2] }
  | _ => none }
def FnExactSkipWrongFalsely : Prop := fnExactSkipRow.holds Try.pinned (OpenSpec.ofChange fnExactSkipWrong)

/-- 'laws.FnExactRequant': WHATEVER THE INPUT: true; the input reads as it did. -/
def fnExactRequantSpec : ChangeSpec := { name := "fnExactRequant", fn := fun _ => fun
  | [d1, d2, d3, d4] => { results := [.lit (.bool true)], args := [d1, d2, d3, d4] }
  | _ => none }
def fnExactRequantRow : OpenClaim := { program := "ytdocahjdpikakaa", sum := "733b2f7e52322359dcc5a904410691884d98d2f107a640472f89b5df89ab915f", func := "loop.example/g00033/laws.FnExactRequant", spec := "fnExactRequant", apart := false }
def FnExactRequantSaid : Prop := fnExactRequantRow.holds Try.pinned (OpenSpec.ofChange fnExactRequantSpec)

/-- ITS FALSE NEIGHBOUR: 'it returns false'. Refute it at one input. -/
def fnExactRequantWrong : ChangeSpec := { name := "fnExactRequant", fn := fun _ => fun
  | [d1, d2, d3, d4] => { results := [.lit (.bool false)], args := [d1, d2, d3, d4] }
  | _ => none }
def FnExactRequantWrongFalsely : Prop := fnExactRequantRow.holds Try.pinned (OpenSpec.ofChange fnExactRequantWrong)

/-- 'laws.FnExactQuantise': WHATEVER THE INPUT: true; the input reads as it did. -/
def fnExactQuantiseSpec : ChangeSpec := { name := "fnExactQuantise", fn := fun _ => fun
  | [d1, d2] => { results := [.lit (.bool true)], args := [d1, d2] }
  | _ => none }
def fnExactQuantiseRow : OpenClaim := { program := "ytdocahjdpikakaa", sum := "733b2f7e52322359dcc5a904410691884d98d2f107a640472f89b5df89ab915f", func := "loop.example/g00033/laws.FnExactQuantise", spec := "fnExactQuantise", apart := false }
def FnExactQuantiseSaid : Prop := fnExactQuantiseRow.holds Try.pinned (OpenSpec.ofChange fnExactQuantiseSpec)

/-- ITS FALSE NEIGHBOUR: 'it returns false'. Refute it at one input. -/
def fnExactQuantiseWrong : ChangeSpec := { name := "fnExactQuantise", fn := fun _ => fun
  | [d1, d2] => { results := [.lit (.bool false)], args := [d1, d2] }
  | _ => none }
def FnExactQuantiseWrongFalsely : Prop := fnExactQuantiseRow.holds Try.pinned (OpenSpec.ofChange fnExactQuantiseWrong)

/-- 'laws.FnExactRate': WHATEVER THE INPUT: true; the input reads as it did. -/
def fnExactRateSpec : ChangeSpec := { name := "fnExactRate", fn := fun _ => fun
  | [d1, d2] => { results := [.lit (.bool true)], args := [d1, d2] }
  | _ => none }
def fnExactRateRow : OpenClaim := { program := "ytdocahjdpikakaa", sum := "733b2f7e52322359dcc5a904410691884d98d2f107a640472f89b5df89ab915f", func := "loop.example/g00033/laws.FnExactRate", spec := "fnExactRate", apart := false }
def FnExactRateSaid : Prop := fnExactRateRow.holds Try.pinned (OpenSpec.ofChange fnExactRateSpec)

/-- ITS FALSE NEIGHBOUR: 'it returns false'. Refute it at one input. -/
def fnExactRateWrong : ChangeSpec := { name := "fnExactRate", fn := fun _ => fun
  | [d1, d2] => { results := [.lit (.bool false)], args := [d1, d2] }
  | _ => none }
def FnExactRateWrongFalsely : Prop := fnExactRateRow.holds Try.pinned (OpenSpec.ofChange fnExactRateWrong)

/- THE SECOND FORM. 'bulk': how many values and letters a reading holds, each counted each time it is reached (what is shared counts as often as it is met; a slice's spare places count too). A statement '..UptoSaid' is the law's where the arguments, and the package variables that the reading takes, are together of bulk at most 1048576: NARROWER than '..Said'. Prove '..Said' where nothing that the law and all that it calls make is longer than what came in: it says more and counts as full. Else prove '..UptoSaid'. A law counts once. -/
mutual
def uptoBulk {H : Type} : DataW H → Nat
  | .lit (.string bytes) => bytes.length + 1
  | .lit _ => 1
  | .nil => 1
  | .ptr d => uptoBulk d + 1
  | .slice elems spare => uptoBulkAll elems + uptoBulkAll spare + 1
  | .agg parts => uptoBulkAll parts + 1
  | .iface _ d => uptoBulk d + 1
  | .map entries => uptoBulkEntries entries + 1
  | .held _ => 1
def uptoBulkAll {H : Type} : List (DataW H) → Nat
  | [] => 0
  | d :: r => uptoBulk d + uptoBulkAll r
def uptoBulkEntries {H : Type} : List (Lit × DataW H) → Nat
  | [] => 0
  | x :: r => uptoBulkEntry x + uptoBulkEntries r
def uptoBulkEntry {H : Type} : Lit × DataW H → Nat
  | (.string bytes, d) => bytes.length + uptoBulk d + 1
  | (_, d) => uptoBulk d + 1
 end
def uptoSmall : (H : Type) → List (DataW H) → Bool := fun _ ds => decide (uptoBulkAll ds ≤ 1048576)
def OpenSpec.upto (s : _root_.Go.ChangeSpec) : _root_.Go.OpenSpec := { _root_.Go.OpenSpec.ofChange s with cond := some uptoSmall }

/-- 'laws.FnExactPackOk', WHERE WHAT IT READS IS OF BULK AT MOST 1048576: true; the input reads as it did. -/
def fnExactPackOkUptoRow : OpenClaim := { program := "ytdocahjdpikakaa", sum := "733b2f7e52322359dcc5a904410691884d98d2f107a640472f89b5df89ab915f", func := "loop.example/g00033/laws.FnExactPackOk", spec := "fnExactPackOk", apart := false, narrowed := true }
def FnExactPackOkUptoSaid : Prop := fnExactPackOkUptoRow.holds Try.pinned (OpenSpec.upto fnExactPackOkSpec)

/-- 'laws.FnExactFeedOk', WHERE WHAT IT READS IS OF BULK AT MOST 1048576: true; the input reads as it did. -/
def fnExactFeedOkUptoRow : OpenClaim := { program := "ytdocahjdpikakaa", sum := "733b2f7e52322359dcc5a904410691884d98d2f107a640472f89b5df89ab915f", func := "loop.example/g00033/laws.FnExactFeedOk", spec := "fnExactFeedOk", apart := false, narrowed := true }
def FnExactFeedOkUptoSaid : Prop := fnExactFeedOkUptoRow.holds Try.pinned (OpenSpec.upto fnExactFeedOkSpec)

/-- 'laws.FnExactValue', WHERE WHAT IT READS IS OF BULK AT MOST 1048576: true; the input reads as it did. -/
def fnExactValueUptoRow : OpenClaim := { program := "ytdocahjdpikakaa", sum := "733b2f7e52322359dcc5a904410691884d98d2f107a640472f89b5df89ab915f", func := "loop.example/g00033/laws.FnExactValue", spec := "fnExactValue", apart := false, narrowed := true }
def FnExactValueUptoSaid : Prop := fnExactValueUptoRow.holds Try.pinned (OpenSpec.upto fnExactValueSpec)

/-- 'laws.FnExactBelow', WHERE WHAT IT READS IS OF BULK AT MOST 1048576: true; the input reads as it did. -/
def fnExactBelowUptoRow : OpenClaim := { program := "ytdocahjdpikakaa", sum := "733b2f7e52322359dcc5a904410691884d98d2f107a640472f89b5df89ab915f", func := "loop.example/g00033/laws.FnExactBelow", spec := "fnExactBelow", apart := false, narrowed := true }
def FnExactBelowUptoSaid : Prop := fnExactBelowUptoRow.holds Try.pinned (OpenSpec.upto fnExactBelowSpec)

/-- 'laws.FnExactBound', WHERE WHAT IT READS IS OF BULK AT MOST 1048576: true; the input reads as it did. -/
def fnExactBoundUptoRow : OpenClaim := { program := "ytdocahjdpikakaa", sum := "733b2f7e52322359dcc5a904410691884d98d2f107a640472f89b5df89ab915f", func := "loop.example/g00033/laws.FnExactBound", spec := "fnExactBound", apart := false, narrowed := true }
def FnExactBoundUptoSaid : Prop := fnExactBoundUptoRow.holds Try.pinned (OpenSpec.upto fnExactBoundSpec)

/-- 'laws.FnExactShift', WHERE WHAT IT READS IS OF BULK AT MOST 1048576: true; the input reads as it did. -/
def fnExactShiftUptoRow : OpenClaim := { program := "ytdocahjdpikakaa", sum := "733b2f7e52322359dcc5a904410691884d98d2f107a640472f89b5df89ab915f", func := "loop.example/g00033/laws.FnExactShift", spec := "fnExactShift", apart := false, narrowed := true }
def FnExactShiftUptoSaid : Prop := fnExactShiftUptoRow.holds Try.pinned (OpenSpec.upto fnExactShiftSpec)

/-- 'laws.FnExactRuleOk', WHERE WHAT IT READS IS OF BULK AT MOST 1048576: true; the input reads as it did. -/
def fnExactRuleOkUptoRow : OpenClaim := { program := "ytdocahjdpikakaa", sum := "733b2f7e52322359dcc5a904410691884d98d2f107a640472f89b5df89ab915f", func := "loop.example/g00033/laws.FnExactRuleOk", spec := "fnExactRuleOk", apart := false, narrowed := true }
def FnExactRuleOkUptoSaid : Prop := fnExactRuleOkUptoRow.holds Try.pinned (OpenSpec.upto fnExactRuleOkSpec)

/-- 'laws.FnExactResize', WHERE WHAT IT READS IS OF BULK AT MOST 1048576: true; the input reads as it did. -/
def fnExactResizeUptoRow : OpenClaim := { program := "ytdocahjdpikakaa", sum := "733b2f7e52322359dcc5a904410691884d98d2f107a640472f89b5df89ab915f", func := "loop.example/g00033/laws.FnExactResize", spec := "fnExactResize", apart := false, narrowed := true }
def FnExactResizeUptoSaid : Prop := fnExactResizeUptoRow.holds Try.pinned (OpenSpec.upto fnExactResizeSpec)

/-- 'laws.FnExactSkip', WHERE WHAT IT READS IS OF BULK AT MOST 1048576: true; the input reads as it did. -/
def fnExactSkipUptoRow : OpenClaim := { program := "ytdocahjdpikakaa", sum := "733b2f7e52322359dcc5a904410691884d98d2f107a640472f89b5df89ab915f", func := "loop.example/g00033/laws.FnExactSkip", spec := "fnExactSkip", apart := false, narrowed := true }
def FnExactSkipUptoSaid : Prop := fnExactSkipUptoRow.holds Try.pinned (OpenSpec.upto fnExactSkipSpec)

/-- 'laws.FnExactRequant', WHERE WHAT IT READS IS OF BULK AT MOST 1048576: true; the input reads as it did. -/
def fnExactRequantUptoRow : OpenClaim := { program := "ytdocahjdpikakaa", sum := "733b2f7e52322359dcc5a904410691884d98d2f107a640472f89b5df89ab915f", func := "loop.example/g00033/laws.FnExactRequant", spec := "fnExactRequant", apart := false, narrowed := true }
def FnExactRequantUptoSaid : Prop := fnExactRequantUptoRow.holds Try.pinned (OpenSpec.upto fnExactRequantSpec)

/-- 'laws.FnExactQuantise', WHERE WHAT IT READS IS OF BULK AT MOST 1048576: true; the input reads as it did. -/
def fnExactQuantiseUptoRow : OpenClaim := { program := "ytdocahjdpikakaa", sum := "733b2f7e52322359dcc5a904410691884d98d2f107a640472f89b5df89ab915f", func := "loop.example/g00033/laws.FnExactQuantise", spec := "fnExactQuantise", apart := false, narrowed := true }
def FnExactQuantiseUptoSaid : Prop := fnExactQuantiseUptoRow.holds Try.pinned (OpenSpec.upto fnExactQuantiseSpec)

/-- 'laws.FnExactRate', WHERE WHAT IT READS IS OF BULK AT MOST 1048576: true; the input reads as it did. -/
def fnExactRateUptoRow : OpenClaim := { program := "ytdocahjdpikakaa", sum := "733b2f7e52322359dcc5a904410691884d98d2f107a640472f89b5df89ab915f", func := "loop.example/g00033/laws.FnExactRate", spec := "fnExactRate", apart := false, narrowed := true }
def FnExactRateUptoSaid : Prop := fnExactRateUptoRow.holds Try.pinned (OpenSpec.upto fnExactRateSpec)

end Rows
end Go.Proofs.Ytdocahjdpikakaa
