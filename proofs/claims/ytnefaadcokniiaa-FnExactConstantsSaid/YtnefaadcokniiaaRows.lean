/-
  No cell of these rows narrows 'for every input' (looked for: loops, veiled, ifaces, maps, wideKeys, modest, calm, conditions, laid).
  DERIVED. THE GIVEN ROWS OF THIS SEAT. 12 by the template 'for every input the law returns true; each argument reads behind the call as it read before'; 0 by the template 'total and deterministic' (their statements: YtnefaadcokniiaaTotals.lean).
  GIVEN WITH THE SEED: the statements are not yours to turn. If you find one false, say at which input.
  Laid BY PROGRAM, IN A SANDBOX (cutbox-rows.mjs): the forced cells as the released guide's own fill.sh prints them over the translation 9c7d19ffb381e5f8… (all of the seat's roots in one cut). By AI agents, Wed Nov 11 2026. No macro, syntax, notation, axiom, sorry.
-/
import Derived.Test.YtnefaadcokniiaaChecked
import GoSem.Claim
import GoSem.ClaimJoined
import GoSem.ClaimMapViews
import Derived.JoinedTies
import Derived.KernelRfl
namespace Go.Proofs.Ytnefaadcokniiaa
/- THE CELL 'sum', in the pinned program and in every row, IS THE sha256 OF THE DUMP (.gsa) THAT YtnefaadcokniiaaProg.lean LOADS. Nothing in Lean hashes anything: it is a label: what it is worth is what the hold of that sum in a sandbox is worth. -/
noncomputable def Try.pinned : Pinned := { name := "ytnefaadcokniiaa", sum := "9c7d19ffb381e5f8c50435c8cd42dc601cc666642146d30395fe4112e3e423f8", checked := Try.checked }
namespace Rows
def none {H : Type} : Left H := { results := [], args := [] }

/-- 'laws.FnExactConstants': WHATEVER THE INPUT: true; the input reads as it did. -/
def fnExactConstantsSpec : ChangeSpec := { name := "fnExactConstants", fn := fun _ => fun
  | [] => { results := [.lit (.bool true)], args := [] }
  | _ => none }
def fnExactConstantsRow : OpenClaim := { program := "ytnefaadcokniiaa", sum := "9c7d19ffb381e5f8c50435c8cd42dc601cc666642146d30395fe4112e3e423f8", func := "loop.example/g00033/laws.FnExactConstants", spec := "fnExactConstants", apart := false }
def FnExactConstantsSaid : Prop := fnExactConstantsRow.holds Try.pinned (OpenSpec.ofChange fnExactConstantsSpec)

/-- ITS FALSE NEIGHBOUR: 'it returns false'. Refute it at one input. -/
def fnExactConstantsWrong : ChangeSpec := { name := "fnExactConstants", fn := fun _ => fun
  | [] => { results := [.lit (.bool false)], args := [] }
  | _ => none }
def FnExactConstantsWrongFalsely : Prop := fnExactConstantsRow.holds Try.pinned (OpenSpec.ofChange fnExactConstantsWrong)

/-- 'laws.FnExactScaleOk': WHATEVER THE INPUT: true; the input reads as it did. -/
def fnExactScaleOkSpec : ChangeSpec := { name := "fnExactScaleOk", fn := fun _ => fun
  | [d] => { results := [.lit (.bool true)], args := [d] }
  | _ => none }
def fnExactScaleOkRow : OpenClaim := { program := "ytnefaadcokniiaa", sum := "9c7d19ffb381e5f8c50435c8cd42dc601cc666642146d30395fe4112e3e423f8", func := "loop.example/g00033/laws.FnExactScaleOk", spec := "fnExactScaleOk", apart := false }
def FnExactScaleOkSaid : Prop := fnExactScaleOkRow.holds Try.pinned (OpenSpec.ofChange fnExactScaleOkSpec)

/-- ITS FALSE NEIGHBOUR: 'it returns false'. Refute it at one input. -/
def fnExactScaleOkWrong : ChangeSpec := { name := "fnExactScaleOk", fn := fun _ => fun
  | [d] => { results := [.lit (.bool false)], args := [d] }
  | _ => none }
def FnExactScaleOkWrongFalsely : Prop := fnExactScaleOkRow.holds Try.pinned (OpenSpec.ofChange fnExactScaleOkWrong)

/-- 'laws.FnExactMod': WHATEVER THE INPUT: true; the input reads as it did. -/
def fnExactModSpec : ChangeSpec := { name := "fnExactMod", fn := fun _ => fun
  | [d] => { results := [.lit (.bool true)], args := [d] }
  | _ => none }
def fnExactModRow : OpenClaim := { program := "ytnefaadcokniiaa", sum := "9c7d19ffb381e5f8c50435c8cd42dc601cc666642146d30395fe4112e3e423f8", func := "loop.example/g00033/laws.FnExactMod", spec := "fnExactMod", apart := false }
def FnExactModSaid : Prop := fnExactModRow.holds Try.pinned (OpenSpec.ofChange fnExactModSpec)

/-- ITS FALSE NEIGHBOUR: 'it returns false'. Refute it at one input. -/
def fnExactModWrong : ChangeSpec := { name := "fnExactMod", fn := fun _ => fun
  | [d] => { results := [.lit (.bool false)], args := [d] }
  | _ => none }
def FnExactModWrongFalsely : Prop := fnExactModRow.holds Try.pinned (OpenSpec.ofChange fnExactModWrong)

/-- 'laws.FnExactNextState': WHATEVER THE INPUT: true; the input reads as it did. -/
def fnExactNextStateSpec : ChangeSpec := { name := "fnExactNextState", fn := fun _ => fun
  | [d] => { results := [.lit (.bool true)], args := [d] }
  | _ => none }
def fnExactNextStateRow : OpenClaim := { program := "ytnefaadcokniiaa", sum := "9c7d19ffb381e5f8c50435c8cd42dc601cc666642146d30395fe4112e3e423f8", func := "loop.example/g00033/laws.FnExactNextState", spec := "fnExactNextState", apart := false }
def FnExactNextStateSaid : Prop := fnExactNextStateRow.holds Try.pinned (OpenSpec.ofChange fnExactNextStateSpec)

/-- ITS FALSE NEIGHBOUR: 'it returns false'. Refute it at one input. -/
def fnExactNextStateWrong : ChangeSpec := { name := "fnExactNextState", fn := fun _ => fun
  | [d] => { results := [.lit (.bool false)], args := [d] }
  | _ => none }
def FnExactNextStateWrongFalsely : Prop := fnExactNextStateRow.holds Try.pinned (OpenSpec.ofChange fnExactNextStateWrong)

/-- 'laws.FnExactChoiceOk': WHATEVER THE INPUT: true; the input reads as it did. -/
def fnExactChoiceOkSpec : ChangeSpec := { name := "fnExactChoiceOk", fn := fun _ => fun
  | [d] => { results := [.lit (.bool true)], args := [d] }
  | _ => none }
def fnExactChoiceOkRow : OpenClaim := { program := "ytnefaadcokniiaa", sum := "9c7d19ffb381e5f8c50435c8cd42dc601cc666642146d30395fe4112e3e423f8", func := "loop.example/g00033/laws.FnExactChoiceOk", spec := "fnExactChoiceOk", apart := false }
def FnExactChoiceOkSaid : Prop := fnExactChoiceOkRow.holds Try.pinned (OpenSpec.ofChange fnExactChoiceOkSpec)

/-- ITS FALSE NEIGHBOUR: 'it returns false'. Refute it at one input. -/
def fnExactChoiceOkWrong : ChangeSpec := { name := "fnExactChoiceOk", fn := fun _ => fun
  | [d] => { results := [.lit (.bool false)], args := [d] }
  | _ => none }
def FnExactChoiceOkWrongFalsely : Prop := fnExactChoiceOkRow.holds Try.pinned (OpenSpec.ofChange fnExactChoiceOkWrong)

/-- 'laws.FnExactSchedOk': WHATEVER THE INPUT: true; the input reads as it did. -/
def fnExactSchedOkSpec : ChangeSpec := { name := "fnExactSchedOk", fn := fun _ => fun
  | [d] => { results := [.lit (.bool true)], args := [d] }
  | _ => none }
def fnExactSchedOkRow : OpenClaim := { program := "ytnefaadcokniiaa", sum := "9c7d19ffb381e5f8c50435c8cd42dc601cc666642146d30395fe4112e3e423f8", func := "loop.example/g00033/laws.FnExactSchedOk", spec := "fnExactSchedOk", apart := false }
def FnExactSchedOkSaid : Prop := fnExactSchedOkRow.holds Try.pinned (OpenSpec.ofChange fnExactSchedOkSpec)

/-- ITS FALSE NEIGHBOUR: 'it returns false'. Refute it at one input. -/
def fnExactSchedOkWrong : ChangeSpec := { name := "fnExactSchedOk", fn := fun _ => fun
  | [d] => { results := [.lit (.bool false)], args := [d] }
  | _ => none }
def FnExactSchedOkWrongFalsely : Prop := fnExactSchedOkRow.holds Try.pinned (OpenSpec.ofChange fnExactSchedOkWrong)

/-- 'laws.FnExactTimes': WHATEVER THE INPUT: true; the input reads as it did. -/
def fnExactTimesSpec : ChangeSpec := { name := "fnExactTimes", fn := fun _ => fun
  | [d1, d2] => { results := [.lit (.bool true)], args := [d1, d2] }
  | _ => none }
def fnExactTimesRow : OpenClaim := { program := "ytnefaadcokniiaa", sum := "9c7d19ffb381e5f8c50435c8cd42dc601cc666642146d30395fe4112e3e423f8", func := "loop.example/g00033/laws.FnExactTimes", spec := "fnExactTimes", apart := false }
def FnExactTimesSaid : Prop := fnExactTimesRow.holds Try.pinned (OpenSpec.ofChange fnExactTimesSpec)

/-- ITS FALSE NEIGHBOUR: 'it returns false'. Refute it at one input. -/
def fnExactTimesWrong : ChangeSpec := { name := "fnExactTimes", fn := fun _ => fun
  | [d1, d2] => { results := [.lit (.bool false)], args := [d1, d2] }
  | _ => none }
def FnExactTimesWrongFalsely : Prop := fnExactTimesRow.holds Try.pinned (OpenSpec.ofChange fnExactTimesWrong)

/-- 'laws.FnExactMinus': WHATEVER THE INPUT: true; the input reads as it did. -/
def fnExactMinusSpec : ChangeSpec := { name := "fnExactMinus", fn := fun _ => fun
  | [d1, d2] => { results := [.lit (.bool true)], args := [d1, d2] }
  | _ => none }
def fnExactMinusRow : OpenClaim := { program := "ytnefaadcokniiaa", sum := "9c7d19ffb381e5f8c50435c8cd42dc601cc666642146d30395fe4112e3e423f8", func := "loop.example/g00033/laws.FnExactMinus", spec := "fnExactMinus", apart := false }
def FnExactMinusSaid : Prop := fnExactMinusRow.holds Try.pinned (OpenSpec.ofChange fnExactMinusSpec)

/-- ITS FALSE NEIGHBOUR: 'it returns false'. Refute it at one input. -/
def fnExactMinusWrong : ChangeSpec := { name := "fnExactMinus", fn := fun _ => fun
  | [d1, d2] => { results := [.lit (.bool false)], args := [d1, d2] }
  | _ => none }
def FnExactMinusWrongFalsely : Prop := fnExactMinusRow.holds Try.pinned (OpenSpec.ofChange fnExactMinusWrong)

/-- 'laws.FnExactPlus': WHATEVER THE INPUT: true; the input reads as it did. -/
def fnExactPlusSpec : ChangeSpec := { name := "fnExactPlus", fn := fun _ => fun
  | [d1, d2] => { results := [.lit (.bool true)], args := [d1, d2] }
  | _ => none }
def fnExactPlusRow : OpenClaim := { program := "ytnefaadcokniiaa", sum := "9c7d19ffb381e5f8c50435c8cd42dc601cc666642146d30395fe4112e3e423f8", func := "loop.example/g00033/laws.FnExactPlus", spec := "fnExactPlus", apart := false }
def FnExactPlusSaid : Prop := fnExactPlusRow.holds Try.pinned (OpenSpec.ofChange fnExactPlusSpec)

/-- ITS FALSE NEIGHBOUR: 'it returns false'. Refute it at one input. -/
def fnExactPlusWrong : ChangeSpec := { name := "fnExactPlus", fn := fun _ => fun
  | [d1, d2] => { results := [.lit (.bool false)], args := [d1, d2] }
  | _ => none }
def FnExactPlusWrongFalsely : Prop := fnExactPlusRow.holds Try.pinned (OpenSpec.ofChange fnExactPlusWrong)

/-- 'laws.FnExactSigned': WHATEVER THE INPUT: true; the input reads as it did. -/
def fnExactSignedSpec : ChangeSpec := { name := "fnExactSigned", fn := fun _ => fun
  | [d] => { results := [.lit (.bool true)], args := [d] }
  | _ => none }
def fnExactSignedRow : OpenClaim := { program := "ytnefaadcokniiaa", sum := "9c7d19ffb381e5f8c50435c8cd42dc601cc666642146d30395fe4112e3e423f8", func := "loop.example/g00033/laws.FnExactSigned", spec := "fnExactSigned", apart := false }
def FnExactSignedSaid : Prop := fnExactSignedRow.holds Try.pinned (OpenSpec.ofChange fnExactSignedSpec)

/-- ITS FALSE NEIGHBOUR: 'it returns false'. Refute it at one input. -/
def fnExactSignedWrong : ChangeSpec := { name := "fnExactSigned", fn := fun _ => fun
  | [d] => { results := [.lit (.bool false)], args := [d] }
  | _ => none }
def FnExactSignedWrongFalsely : Prop := fnExactSignedRow.holds Try.pinned (OpenSpec.ofChange fnExactSignedWrong)

/-- 'laws.FnExactRoot': WHATEVER THE INPUT: true; the input reads as it did. -/
def fnExactRootSpec : ChangeSpec := { name := "fnExactRoot", fn := fun _ => fun
  | [d] => { results := [.lit (.bool true)], args := [d] }
  | _ => none }
def fnExactRootRow : OpenClaim := { program := "ytnefaadcokniiaa", sum := "9c7d19ffb381e5f8c50435c8cd42dc601cc666642146d30395fe4112e3e423f8", func := "loop.example/g00033/laws.FnExactRoot", spec := "fnExactRoot", apart := false }
def FnExactRootSaid : Prop := fnExactRootRow.holds Try.pinned (OpenSpec.ofChange fnExactRootSpec)

/-- ITS FALSE NEIGHBOUR: 'it returns false'. Refute it at one input. -/
def fnExactRootWrong : ChangeSpec := { name := "fnExactRoot", fn := fun _ => fun
  | [d] => { results := [.lit (.bool false)], args := [d] }
  | _ => none }
def FnExactRootWrongFalsely : Prop := fnExactRootRow.holds Try.pinned (OpenSpec.ofChange fnExactRootWrong)

/-- 'laws.FnExactNear': WHATEVER THE INPUT: true; the input reads as it did. -/
def fnExactNearSpec : ChangeSpec := { name := "fnExactNear", fn := fun _ => fun
  | [d1, d2] => { results := [.lit (.bool true)], args := [d1, d2] }
  | _ => none }
def fnExactNearRow : OpenClaim := { program := "ytnefaadcokniiaa", sum := "9c7d19ffb381e5f8c50435c8cd42dc601cc666642146d30395fe4112e3e423f8", func := "loop.example/g00033/laws.FnExactNear", spec := "fnExactNear", apart := false }
def FnExactNearSaid : Prop := fnExactNearRow.holds Try.pinned (OpenSpec.ofChange fnExactNearSpec)

/-- ITS FALSE NEIGHBOUR: 'it returns false'. Refute it at one input. -/
def fnExactNearWrong : ChangeSpec := { name := "fnExactNear", fn := fun _ => fun
  | [d1, d2] => { results := [.lit (.bool false)], args := [d1, d2] }
  | _ => none }
def FnExactNearWrongFalsely : Prop := fnExactNearRow.holds Try.pinned (OpenSpec.ofChange fnExactNearWrong)

/- THE SECOND FORM. 'bulk': how many values and letters a reading holds, each counted each time it is reached (what is shared counts as often as it is met; a slice's spare places count too). A statement '..UptoSaid' is the law's where the arguments, and the package variables that the reading takes, are together of bulk at most 1048576: NARROWER than '..Said'. Prove '..Said' where nothing that the law and all that it calls make is longer than what came in: it says more and counts as full. Else prove '..UptoSaid'. A law counts once. -/
mutual
def uptoBulk {H : Type} : DataW H → Nat
  | .lit (.string bytes) => bytes.length + 1
  | .lit _ => 1
  | .nil => 1
  | .ptr d => uptoBulk d + 1
  | .slice elems spare => uptoBulkAll elems + uptoBulkAll spare + 1
  | .agg parts => uptoBulkAll parts + 1
  | .iface _ d => uptoBulk d + 1
  | .map entries => uptoBulkEntries entries + 1
  | .held _ => 1
def uptoBulkAll {H : Type} : List (DataW H) → Nat
  | [] => 0
  | d :: r => uptoBulk d + uptoBulkAll r
def uptoBulkEntries {H : Type} : List (Lit × DataW H) → Nat
  | [] => 0
  | x :: r => uptoBulkEntry x + uptoBulkEntries r
def uptoBulkEntry {H : Type} : Lit × DataW H → Nat
  | (.string bytes, d) => bytes.length + uptoBulk d + 1
  | (_, d) => uptoBulk d + 1
 end
def uptoSmall : (H : Type) → List (DataW H) → Bool := fun _ ds => decide (uptoBulkAll ds ≤ 1048576)
def OpenSpec.upto (s : _root_.Go.ChangeSpec) : _root_.Go.OpenSpec := { _root_.Go.OpenSpec.ofChange s with cond := some uptoSmall }

/-- 'laws.FnExactConstants', WHERE WHAT IT READS IS OF BULK AT MOST 1048576: true; the input reads as it did. -/
def fnExactConstantsUptoRow : OpenClaim := { program := "ytnefaadcokniiaa", sum := "9c7d19ffb381e5f8c50435c8cd42dc601cc666642146d30395fe4112e3e423f8", func := "loop.example/g00033/laws.FnExactConstants", spec := "fnExactConstants", apart := false, narrowed := true }
def FnExactConstantsUptoSaid : Prop := fnExactConstantsUptoRow.holds Try.pinned (OpenSpec.upto fnExactConstantsSpec)

/-- 'laws.FnExactScaleOk', WHERE WHAT IT READS IS OF BULK AT MOST 1048576: true; the input reads as it did. -/
def fnExactScaleOkUptoRow : OpenClaim := { program := "ytnefaadcokniiaa", sum := "9c7d19ffb381e5f8c50435c8cd42dc601cc666642146d30395fe4112e3e423f8", func := "loop.example/g00033/laws.FnExactScaleOk", spec := "fnExactScaleOk", apart := false, narrowed := true }
def FnExactScaleOkUptoSaid : Prop := fnExactScaleOkUptoRow.holds Try.pinned (OpenSpec.upto fnExactScaleOkSpec)

/-- 'laws.FnExactMod', WHERE WHAT IT READS IS OF BULK AT MOST 1048576: true; the input reads as it did. -/
def fnExactModUptoRow : OpenClaim := { program := "ytnefaadcokniiaa", sum := "9c7d19ffb381e5f8c50435c8cd42dc601cc666642146d30395fe4112e3e423f8", func := "loop.example/g00033/laws.FnExactMod", spec := "fnExactMod", apart := false, narrowed := true }
def FnExactModUptoSaid : Prop := fnExactModUptoRow.holds Try.pinned (OpenSpec.upto fnExactModSpec)

/-- 'laws.FnExactNextState', WHERE WHAT IT READS IS OF BULK AT MOST 1048576: true; the input reads as it did. -/
def fnExactNextStateUptoRow : OpenClaim := { program := "ytnefaadcokniiaa", sum := "9c7d19ffb381e5f8c50435c8cd42dc601cc666642146d30395fe4112e3e423f8", func := "loop.example/g00033/laws.FnExactNextState", spec := "fnExactNextState", apart := false, narrowed := true }
def FnExactNextStateUptoSaid : Prop := fnExactNextStateUptoRow.holds Try.pinned (OpenSpec.upto fnExactNextStateSpec)

/-- 'laws.FnExactChoiceOk', WHERE WHAT IT READS IS OF BULK AT MOST 1048576: true; the input reads as it did. -/
def fnExactChoiceOkUptoRow : OpenClaim := { program := "ytnefaadcokniiaa", sum := "9c7d19ffb381e5f8c50435c8cd42dc601cc666642146d30395fe4112e3e423f8", func := "loop.example/g00033/laws.FnExactChoiceOk", spec := "fnExactChoiceOk", apart := false, narrowed := true }
def FnExactChoiceOkUptoSaid : Prop := fnExactChoiceOkUptoRow.holds Try.pinned (OpenSpec.upto fnExactChoiceOkSpec)

/-- 'laws.FnExactSchedOk', WHERE WHAT IT READS IS OF BULK AT MOST 1048576: true; the input reads as it did. -/
def fnExactSchedOkUptoRow : OpenClaim := { program := "ytnefaadcokniiaa", sum := "9c7d19ffb381e5f8c50435c8cd42dc601cc666642146d30395fe4112e3e423f8", func := "loop.example/g00033/laws.FnExactSchedOk", spec := "fnExactSchedOk", apart := false, narrowed := true }
def FnExactSchedOkUptoSaid : Prop := fnExactSchedOkUptoRow.holds Try.pinned (OpenSpec.upto fnExactSchedOkSpec)

/-- 'laws.FnExactTimes', WHERE WHAT IT READS IS OF BULK AT MOST 1048576: true; the input reads as it did. -/
def fnExactTimesUptoRow : OpenClaim := { program := "ytnefaadcokniiaa", sum := "9c7d19ffb381e5f8c50435c8cd42dc601cc666642146d30395fe4112e3e423f8", func := "loop.example/g00033/laws.FnExactTimes", spec := "fnExactTimes", apart := false, narrowed := true }
def FnExactTimesUptoSaid : Prop := fnExactTimesUptoRow.holds Try.pinned (OpenSpec.upto fnExactTimesSpec)

/-- 'laws.FnExactMinus', WHERE WHAT IT READS IS OF BULK AT MOST 1048576: true; the input reads as it did. -/
def fnExactMinusUptoRow : OpenClaim := { program := "ytnefaadcokniiaa", sum := "9c7d19ffb381e5f8c50435c8cd42dc601cc666642146d30395fe4112e3e423f8", func := "loop.example/g00033/laws.FnExactMinus", spec := "fnExactMinus", apart := false, narrowed := true }
def FnExactMinusUptoSaid : Prop := fnExactMinusUptoRow.holds Try.pinned (OpenSpec.upto fnExactMinusSpec)

/-- 'laws.FnExactPlus', WHERE WHAT IT READS IS OF BULK AT MOST 1048576: true; the input reads as it did. -/
def fnExactPlusUptoRow : OpenClaim := { program := "ytnefaadcokniiaa", sum := "9c7d19ffb381e5f8c50435c8cd42dc601cc666642146d30395fe4112e3e423f8", func := "loop.example/g00033/laws.FnExactPlus", spec := "fnExactPlus", apart := false, narrowed := true }
def FnExactPlusUptoSaid : Prop := fnExactPlusUptoRow.holds Try.pinned (OpenSpec.upto fnExactPlusSpec)

/-- 'laws.FnExactSigned', WHERE WHAT IT READS IS OF BULK AT MOST 1048576: true; the input reads as it did. -/
def fnExactSignedUptoRow : OpenClaim := { program := "ytnefaadcokniiaa", sum := "9c7d19ffb381e5f8c50435c8cd42dc601cc666642146d30395fe4112e3e423f8", func := "loop.example/g00033/laws.FnExactSigned", spec := "fnExactSigned", apart := false, narrowed := true }
def FnExactSignedUptoSaid : Prop := fnExactSignedUptoRow.holds Try.pinned (OpenSpec.upto fnExactSignedSpec)

/-- 'laws.FnExactRoot', WHERE WHAT IT READS IS OF BULK AT MOST 1048576: true; the input reads as it did. -/
def fnExactRootUptoRow : OpenClaim := { program := "ytnefaadcokniiaa", sum := "9c7d19ffb381e5f8c50435c8cd42dc601cc666642146d30395fe4112e3e423f8", func := "loop.example/g00033/laws.FnExactRoot", spec := "fnExactRoot", apart := false, narrowed := true }
def FnExactRootUptoSaid : Prop := fnExactRootUptoRow.holds Try.pinned (OpenSpec.upto fnExactRootSpec)

/-- 'laws.FnExactNear', WHERE WHAT IT READS IS OF BULK AT MOST 1048576: true; the input reads as it did. -/
def fnExactNearUptoRow : OpenClaim := { program := "ytnefaadcokniiaa", sum := "9c7d19ffb381e5f8c50435c8cd42dc601cc666642146d30395fe4112e3e423f8", func := "loop.example/g00033/laws.FnExactNear", spec := "fnExactNear", apart := false, narrowed := true }
def FnExactNearUptoSaid : Prop := fnExactNearUptoRow.holds Try.pinned (OpenSpec.upto fnExactNearSpec)

end Rows
end Go.Proofs.Ytnefaadcokniiaa
