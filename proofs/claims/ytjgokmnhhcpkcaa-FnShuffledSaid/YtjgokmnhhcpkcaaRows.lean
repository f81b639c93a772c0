/-
  No cell of these rows narrows 'for every input' (looked for: loops, veiled, ifaces, maps, wideKeys, modest, calm, conditions, laid).
  DERIVED. THE GIVEN ROWS OF THIS SEAT. 12 by the template 'for every input the law returns true; each argument reads behind the call as it read before'; 0 by the template 'total and deterministic' (their statements: YtjgokmnhhcpkcaaTotals.lean).
  GIVEN WITH THE SEED: the statements are not yours to turn. If you find one false, say at which input.
  Laid BY PROGRAM, IN A SANDBOX (cutbox-rows.mjs): the forced cells as the released guide's own fill.sh prints them over the translation a0a700da513fa730… (all of the seat's roots in one cut). By AI agents, Wed Nov 11 2026. No macro, syntax, notation, axiom, sorry.
-/
import Derived.Test.YtjgokmnhhcpkcaaChecked
import GoSem.Claim
import GoSem.ClaimJoined
import GoSem.ClaimMapViews
import Derived.JoinedTies
import Derived.KernelRfl
namespace Go.Proofs.Ytjgokmnhhcpkcaa
/- THE CELL 'sum', in the pinned program and in every row, IS THE sha256 OF THE DUMP (.gsa) THAT YtjgokmnhhcpkcaaProg.lean LOADS. Nothing in Lean hashes anything: it is a label: what it is worth is what the hold of that sum in a sandbox is worth. -/
noncomputable def Try.pinned : Pinned := { name := "ytjgokmnhhcpkcaa", sum := "a0a700da513fa730706202b911f7561bcc33219c3f80e33793ad66e35ced715d", checked := Try.checked }
namespace Rows
def none {H : Type} : Left H := { results := [], args := [] }

/-- 'laws.FnField': WHATEVER THE INPUT: true; the input reads as it did. -/
def fnFieldSpec : ChangeSpec := { name := "fnField", fn := fun _ => fun
  | [d1, d2] => { results := [.lit (.bool true)], args := [d1, d2] }
  | _ => none }
def fnFieldRow : OpenClaim := { program := "ytjgokmnhhcpkcaa", sum := "a0a700da513fa730706202b911f7561bcc33219c3f80e33793ad66e35ced715d", func := "loop.example/g00033/laws.FnField", spec := "fnField", recurses := true, apart := false }
def FnFieldSaid : Prop := fnFieldRow.holds Try.pinned (OpenSpec.ofChange fnFieldSpec)

/-- ITS FALSE NEIGHBOUR: 'it returns false'. Refute it at one input. -/
def fnFieldWrong : ChangeSpec := { name := "fnField", fn := fun _ => fun
  | [d1, d2] => { results := [.lit (.bool false)], args := [d1, d2] }
  | _ => none }
def FnFieldWrongFalsely : Prop := fnFieldRow.holds Try.pinned (OpenSpec.ofChange fnFieldWrong)

/-- 'laws.FnNear': WHATEVER THE INPUT: true; the input reads as it did. -/
def fnNearSpec : ChangeSpec := { name := "fnNear", fn := fun _ => fun
  | [d] => { results := [.lit (.bool true)], args := [d] }
  | _ => none }
def fnNearRow : OpenClaim := { program := "ytjgokmnhhcpkcaa", sum := "a0a700da513fa730706202b911f7561bcc33219c3f80e33793ad66e35ced715d", func := "loop.example/g00033/laws.FnNear", spec := "fnNear", apart := false }
def FnNearSaid : Prop := fnNearRow.holds Try.pinned (OpenSpec.ofChange fnNearSpec)

/-- ITS FALSE NEIGHBOUR: 'it returns false'. Refute it at one input. -/
def fnNearWrong : ChangeSpec := { name := "fnNear", fn := fun _ => fun
  | [d] => { results := [.lit (.bool false)], args := [d] }
  | _ => none }
def FnNearWrongFalsely : Prop := fnNearRow.holds Try.pinned (OpenSpec.ofChange fnNearWrong)

/-- 'laws.FnRates': WHATEVER THE INPUT: true; the input reads as it did. -/
def fnRatesSpec : ChangeSpec := { name := "fnRates", fn := fun _ => fun
  | [d] => { results := [.lit (.bool true)], args := [d] }
  | _ => none }
def fnRatesRow : OpenClaim := { program := "ytjgokmnhhcpkcaa", sum := "a0a700da513fa730706202b911f7561bcc33219c3f80e33793ad66e35ced715d", func := "loop.example/g00033/laws.FnRates", spec := "fnRates", apart := false }
def FnRatesSaid : Prop := fnRatesRow.holds Try.pinned (OpenSpec.ofChange fnRatesSpec)

/-- ITS FALSE NEIGHBOUR: 'it returns false'. Refute it at one input. -/
def fnRatesWrong : ChangeSpec := { name := "fnRates", fn := fun _ => fun
  | [d] => { results := [.lit (.bool false)], args := [d] }
  | _ => none }
def FnRatesWrongFalsely : Prop := fnRatesRow.holds Try.pinned (OpenSpec.ofChange fnRatesWrong)

/-- 'laws.FnShuffled': WHATEVER THE INPUT: true; the input reads as it did. -/
def fnShuffledSpec : ChangeSpec := { name := "fnShuffled", fn := fun _ => fun
  | [d] => { results := [.lit (.bool true)], args := [d] }
  | _ => none }
def fnShuffledRow : OpenClaim := { program := "ytjgokmnhhcpkcaa", sum := "a0a700da513fa730706202b911f7561bcc33219c3f80e33793ad66e35ced715d", func := "loop.example/g00033/laws.FnShuffled", spec := "fnShuffled", apart := false }
def FnShuffledSaid : Prop := fnShuffledRow.holds Try.pinned (OpenSpec.ofChange fnShuffledSpec)

/-- ITS FALSE NEIGHBOUR: 'it returns false'. Refute it at one input. -/
def fnShuffledWrong : ChangeSpec := { name := "fnShuffled", fn := fun _ => fun
  | [d] => { results := [.lit (.bool false)], args := [d] }
  | _ => none }
def FnShuffledWrongFalsely : Prop := fnShuffledRow.holds Try.pinned (OpenSpec.ofChange fnShuffledWrong)

/-- 'laws.FnExactPlus': WHATEVER THE INPUT: true; the input reads as it did. -/
def fnExactPlusSpec : ChangeSpec := { name := "fnExactPlus", fn := fun _ => fun
  | [d1, d2] => { results := [.lit (.bool true)], args := [d1, d2] }
  | _ => none }
def fnExactPlusRow : OpenClaim := { program := "ytjgokmnhhcpkcaa", sum := "a0a700da513fa730706202b911f7561bcc33219c3f80e33793ad66e35ced715d", func := "loop.example/g00033/laws.FnExactPlus", spec := "fnExactPlus", apart := false }
def FnExactPlusSaid : Prop := fnExactPlusRow.holds Try.pinned (OpenSpec.ofChange fnExactPlusSpec)

/-- ITS FALSE NEIGHBOUR: 'it returns false'. Refute it at one input. -/
def fnExactPlusWrong : ChangeSpec := { name := "fnExactPlus", fn := fun _ => fun
  | [d1, d2] => { results := [.lit (.bool false)], args := [d1, d2] }
  | _ => none }
def FnExactPlusWrongFalsely : Prop := fnExactPlusRow.holds Try.pinned (OpenSpec.ofChange fnExactPlusWrong)

/-- 'laws.FnExactMinus': WHATEVER THE INPUT: true; the input reads as it did. -/
def fnExactMinusSpec : ChangeSpec := { name := "fnExactMinus", fn := fun _ => fun
  | [d1, d2] => { results := [.lit (.bool true)], args := [d1, d2] }
  | _ => none }
def fnExactMinusRow : OpenClaim := { program := "ytjgokmnhhcpkcaa", sum := "a0a700da513fa730706202b911f7561bcc33219c3f80e33793ad66e35ced715d", func := "loop.example/g00033/laws.FnExactMinus", spec := "fnExactMinus", apart := false }
def FnExactMinusSaid : Prop := fnExactMinusRow.holds Try.pinned (OpenSpec.ofChange fnExactMinusSpec)

/-- ITS FALSE NEIGHBOUR: 'it returns false'. Refute it at one input. -/
def fnExactMinusWrong : ChangeSpec := { name := "fnExactMinus", fn := fun _ => fun
  | [d1, d2] => { results := [.lit (.bool false)], args := [d1, d2] }
  | _ => none }
def FnExactMinusWrongFalsely : Prop := fnExactMinusRow.holds Try.pinned (OpenSpec.ofChange fnExactMinusWrong)

/-- 'laws.FnExactOver': WHATEVER THE INPUT: true; the input reads as it did. -/
def fnExactOverSpec : ChangeSpec := { name := "fnExactOver", fn := fun _ => fun
  | [d1, d2] => { results := [.lit (.bool true)], args := [d1, d2] }
  | _ => none }
def fnExactOverRow : OpenClaim := { program := "ytjgokmnhhcpkcaa", sum := "a0a700da513fa730706202b911f7561bcc33219c3f80e33793ad66e35ced715d", func := "loop.example/g00033/laws.FnExactOver", spec := "fnExactOver", recurses := true, apart := false }
def FnExactOverSaid : Prop := fnExactOverRow.holds Try.pinned (OpenSpec.ofChange fnExactOverSpec)

/-- ITS FALSE NEIGHBOUR: 'it returns false'. Refute it at one input. -/
def fnExactOverWrong : ChangeSpec := { name := "fnExactOver", fn := fun _ => fun
  | [d1, d2] => { results := [.lit (.bool false)], args := [d1, d2] }
  | _ => none }
def FnExactOverWrongFalsely : Prop := fnExactOverRow.holds Try.pinned (OpenSpec.ofChange fnExactOverWrong)

/-- 'laws.FnExactPower': WHATEVER THE INPUT: true; the input reads as it did. -/
def fnExactPowerSpec : ChangeSpec := { name := "fnExactPower", fn := fun _ => fun
  | [d1, d2] => { results := [.lit (.bool true)], args := [d1, d2] }
  | _ => none }
def fnExactPowerRow : OpenClaim := { program := "ytjgokmnhhcpkcaa", sum := "a0a700da513fa730706202b911f7561bcc33219c3f80e33793ad66e35ced715d", func := "loop.example/g00033/laws.FnExactPower", spec := "fnExactPower", recurses := true, apart := false }
def FnExactPowerSaid : Prop := fnExactPowerRow.holds Try.pinned (OpenSpec.ofChange fnExactPowerSpec)

/-- ITS FALSE NEIGHBOUR: 'it returns false'. Refute it at one input. -/
def fnExactPowerWrong : ChangeSpec := { name := "fnExactPower", fn := fun _ => fun
  | [d1, d2] => { results := [.lit (.bool false)], args := [d1, d2] }
  | _ => none }
def FnExactPowerWrongFalsely : Prop := fnExactPowerRow.holds Try.pinned (OpenSpec.ofChange fnExactPowerWrong)

/-- 'laws.FnExactNear': WHATEVER THE INPUT: true; the input reads as it did. -/
def fnExactNearSpec : ChangeSpec := { name := "fnExactNear", fn := fun _ => fun
  | [d1, d2] => { results := [.lit (.bool true)], args := [d1, d2] }
  | _ => none }
def fnExactNearRow : OpenClaim := { program := "ytjgokmnhhcpkcaa", sum := "a0a700da513fa730706202b911f7561bcc33219c3f80e33793ad66e35ced715d", func := "loop.example/g00033/laws.FnExactNear", spec := "fnExactNear", apart := false }
def FnExactNearSaid : Prop := fnExactNearRow.holds Try.pinned (OpenSpec.ofChange fnExactNearSpec)

/-- ITS FALSE NEIGHBOUR: 'it returns false'. Refute it at one input. -/
def fnExactNearWrong : ChangeSpec := { name := "fnExactNear", fn := fun _ => fun
  | [d1, d2] => { results := [.lit (.bool false)], args := [d1, d2] }
  | _ => none }
def FnExactNearWrongFalsely : Prop := fnExactNearRow.holds Try.pinned (OpenSpec.ofChange fnExactNearWrong)

/-- 'laws.FnExactRate': WHATEVER THE INPUT: true; the input reads as it did. -/
def fnExactRateSpec : ChangeSpec := { name := "fnExactRate", fn := fun _ => fun
  | [d1, d2] => { results := [.lit (.bool true)], args := [d1, d2] }
  | _ => none }
def fnExactRateRow : OpenClaim := { program := "ytjgokmnhhcpkcaa", sum := "a0a700da513fa730706202b911f7561bcc33219c3f80e33793ad66e35ced715d", func := "loop.example/g00033/laws.FnExactRate", spec := "fnExactRate", apart := false }
def FnExactRateSaid : Prop := fnExactRateRow.holds Try.pinned (OpenSpec.ofChange fnExactRateSpec)

/-- ITS FALSE NEIGHBOUR: 'it returns false'. Refute it at one input. -/
def fnExactRateWrong : ChangeSpec := { name := "fnExactRate", fn := fun _ => fun
  | [d1, d2] => { results := [.lit (.bool false)], args := [d1, d2] }
  | _ => none }
def FnExactRateWrongFalsely : Prop := fnExactRateRow.holds Try.pinned (OpenSpec.ofChange fnExactRateWrong)

/-- 'laws.FnExactShift': WHATEVER THE INPUT: true; the input reads as it did. -/
def fnExactShiftSpec : ChangeSpec := { name := "fnExactShift", fn := fun _ => fun
  | [d1, d2] => { results := [.lit (.bool true)], args := [d1, d2] }
  | _ => none }
def fnExactShiftRow : OpenClaim := { program := "ytjgokmnhhcpkcaa", sum := "a0a700da513fa730706202b911f7561bcc33219c3f80e33793ad66e35ced715d", func := "loop.example/g00033/laws.FnExactShift", spec := "fnExactShift", apart := false }
def FnExactShiftSaid : Prop := fnExactShiftRow.holds Try.pinned (OpenSpec.ofChange fnExactShiftSpec)

/-- ITS FALSE NEIGHBOUR: 'it returns false'. Refute it at one input. -/
def fnExactShiftWrong : ChangeSpec := { name := "fnExactShift", fn := fun _ => fun
  | [d1, d2] => { results := [.lit (.bool false)], args := [d1, d2] }
  | _ => none }
def FnExactShiftWrongFalsely : Prop := fnExactShiftRow.holds Try.pinned (OpenSpec.ofChange fnExactShiftWrong)

/-- 'laws.FnExactShuffle': WHATEVER THE INPUT: true; the input reads as it did. -/
def fnExactShuffleSpec : ChangeSpec := { name := "fnExactShuffle", fn := fun _ => fun
  | [d1, d2] => { results := [.lit (.bool true)], args := [d1, d2] }
  | _ => none }
def fnExactShuffleRow : OpenClaim := { program := "ytjgokmnhhcpkcaa", sum := "a0a700da513fa730706202b911f7561bcc33219c3f80e33793ad66e35ced715d", func := "loop.example/g00033/laws.FnExactShuffle", spec := "fnExactShuffle", apart := false }
def FnExactShuffleSaid : Prop := fnExactShuffleRow.holds Try.pinned (OpenSpec.ofChange fnExactShuffleSpec)

/-- ITS FALSE NEIGHBOUR: 'it returns false'. Refute it at one input. -/
def fnExactShuffleWrong : ChangeSpec := { name := "fnExactShuffle", fn := fun _ => fun
  | [d1, d2] => { results := [.lit (.bool false)], args := [d1, d2] }
  | _ => none }
def FnExactShuffleWrongFalsely : Prop := fnExactShuffleRow.holds Try.pinned (OpenSpec.ofChange fnExactShuffleWrong)

/- THE SECOND FORM. 'bulk': how many values and letters a reading holds, each counted each time it is reached (what is shared counts as often as it is met; a slice's spare places count too). A statement '..UptoSaid' is the law's where the arguments, and the package variables that the reading takes, are together of bulk at most 1048576: NARROWER than '..Said'. Prove '..Said' where nothing that the law and all that it calls make is longer than what came in: it says more and counts as full. Else prove '..UptoSaid'. A law counts once. -/
mutual
def uptoBulk {H : Type} : DataW H → Nat
  | .lit (.string bytes) => bytes.length + 1
  | .lit _ => 1
  | .nil => 1
  | .ptr d => uptoBulk d + 1
  | .slice elems spare => uptoBulkAll elems + uptoBulkAll spare + 1
  | .agg parts => uptoBulkAll parts + 1
  | .iface _ d => uptoBulk d + 1
  | .map entries => uptoBulkEntries entries + 1
  | .held _ => 1
def uptoBulkAll {H : Type} : List (DataW H) → Nat
  | [] => 0
  | d :: r => uptoBulk d + uptoBulkAll r
def uptoBulkEntries {H : Type} : List (Lit × DataW H) → Nat
  | [] => 0
  | x :: r => uptoBulkEntry x + uptoBulkEntries r
def uptoBulkEntry {H : Type} : Lit × DataW H → Nat
  | (.string bytes, d) => bytes.length + uptoBulk d + 1
  | (_, d) => uptoBulk d + 1
 end
def uptoSmall : (H : Type) → List (DataW H) → Bool := fun _ ds => decide (uptoBulkAll ds ≤ 1048576)
def OpenSpec.upto (s : _root_.Go.ChangeSpec) : _root_.Go.OpenSpec := { _root_.Go.OpenSpec.ofChange s with cond := some uptoSmall }

/-- 'laws.FnField', WHERE WHAT IT READS IS OF BULK AT MOST 1048576: true; the input reads as it did. -/
def fnFieldUptoRow : OpenClaim := { program := "ytjgokmnhhcpkcaa", sum := "a0a700da513fa730706202b911f7561bcc33219c3f80e33793ad66e35ced715d", func := "loop.example/g00033/laws.FnField", spec := "fnField", recurses := true, apart := false, narrowed := true }
def FnFieldUptoSaid : Prop := fnFieldUptoRow.holds Try.pinned (OpenSpec.upto fnFieldSpec)

/-- 'laws.FnNear', WHERE WHAT IT READS IS OF BULK AT MOST 1048576: true; the input reads as it did. -/
def fnNearUptoRow : OpenClaim := { program := "ytjgokmnhhcpkcaa", sum := "a0a700da513fa730706202b911f7561bcc33219c3f80e33793ad66e35ced715d", func := "loop.example/g00033/laws.FnNear", spec := "fnNear", apart := false, narrowed := true }
def FnNearUptoSaid : Prop := fnNearUptoRow.holds Try.pinned (OpenSpec.upto fnNearSpec)

/-- 'laws.FnRates', WHERE WHAT IT READS IS OF BULK AT MOST 1048576: true; the input reads as it did. -/
def fnRatesUptoRow : OpenClaim := { program := "ytjgokmnhhcpkcaa", sum := "a0a700da513fa730706202b911f7561bcc33219c3f80e33793ad66e35ced715d", func := "loop.example/g00033/laws.FnRates", spec := "fnRates", apart := false, narrowed := true }
def FnRatesUptoSaid : Prop := fnRatesUptoRow.holds Try.pinned (OpenSpec.upto fnRatesSpec)

/-- 'laws.FnShuffled', WHERE WHAT IT READS IS OF BULK AT MOST 1048576: true; the input reads as it did. -/
def fnShuffledUptoRow : OpenClaim := { program := "ytjgokmnhhcpkcaa", sum := "a0a700da513fa730706202b911f7561bcc33219c3f80e33793ad66e35ced715d", func := "loop.example/g00033/laws.FnShuffled", spec := "fnShuffled", apart := false, narrowed := true }
def FnShuffledUptoSaid : Prop := fnShuffledUptoRow.holds Try.pinned (OpenSpec.upto fnShuffledSpec)

/-- 'laws.FnExactPlus', WHERE WHAT IT READS IS OF BULK AT MOST 1048576: true; the input reads as it did. -/
def fnExactPlusUptoRow : OpenClaim := { program := "ytjgokmnhhcpkcaa", sum := "a0a700da513fa730706202b911f7561bcc33219c3f80e33793ad66e35ced715d", func := "loop.example/g00033/laws.FnExactPlus", spec := "fnExactPlus", apart := false, narrowed := true }
def FnExactPlusUptoSaid : Prop := fnExactPlusUptoRow.holds Try.pinned (OpenSpec.upto fnExactPlusSpec)

/-- 'laws.FnExactMinus', WHERE WHAT IT READS IS OF BULK AT MOST 1048576: true; the input reads as it did. -/
def fnExactMinusUptoRow : OpenClaim := { program := "ytjgokmnhhcpkcaa", sum := "a0a700da513fa730706202b911f7561bcc33219c3f80e33793ad66e35ced715d", func := "loop.example/g00033/laws.FnExactMinus", spec := "fnExactMinus", apart := false, narrowed := true }
def FnExactMinusUptoSaid : Prop := fnExactMinusUptoRow.holds Try.pinned (OpenSpec.upto fnExactMinusSpec)

/-- 'laws.FnExactOver', WHERE WHAT IT READS IS OF BULK AT MOST 1048576: true; the input reads as it did. -/
def fnExactOverUptoRow : OpenClaim := { program := "ytjgokmnhhcpkcaa", sum := "a0a700da513fa730706202b911f7561bcc33219c3f80e33793ad66e35ced715d", func := "loop.example/g00033/laws.FnExactOver", spec := "fnExactOver", recurses := true, apart := false, narrowed := true }
def FnExactOverUptoSaid : Prop := fnExactOverUptoRow.holds Try.pinned (OpenSpec.upto fnExactOverSpec)

/-- 'laws.FnExactPower', WHERE WHAT IT READS IS OF BULK AT MOST 1048576: true; the input reads as it did. -/
def fnExactPowerUptoRow : OpenClaim := { program := "ytjgokmnhhcpkcaa", sum := "a0a700da513fa730706202b911f7561bcc33219c3f80e33793ad66e35ced715d", func := "loop.example/g00033/laws.FnExactPower", spec := "fnExactPower", recurses := true, apart := false, narrowed := true }
def FnExactPowerUptoSaid : Prop := fnExactPowerUptoRow.holds Try.pinned (OpenSpec.upto fnExactPowerSpec)

/-- 'laws.FnExactNear', WHERE WHAT IT READS IS OF BULK AT MOST 1048576: true; the input reads as it did. -/
def fnExactNearUptoRow : OpenClaim := { program := "ytjgokmnhhcpkcaa", sum := "a0a700da513fa730706202b911f7561bcc33219c3f80e33793ad66e35ced715d", func := "loop.example/g00033/laws.FnExactNear", spec := "fnExactNear", apart := false, narrowed := true }
def FnExactNearUptoSaid : Prop := fnExactNearUptoRow.holds Try.pinned (OpenSpec.upto fnExactNearSpec)

/-- 'laws.FnExactRate', WHERE WHAT IT READS IS OF BULK AT MOST 1048576: true; the input reads as it did. -/
def fnExactRateUptoRow : OpenClaim := { program := "ytjgokmnhhcpkcaa", sum := "a0a700da513fa730706202b911f7561bcc33219c3f80e33793ad66e35ced715d", func := "loop.example/g00033/laws.FnExactRate", spec := "fnExactRate", apart := false, narrowed := true }
def FnExactRateUptoSaid : Prop := fnExactRateUptoRow.holds Try.pinned (OpenSpec.upto fnExactRateSpec)

/-- 'laws.FnExactShift', WHERE WHAT IT READS IS OF BULK AT MOST 1048576: true; the input reads as it did. -/
def fnExactShiftUptoRow : OpenClaim := { program := "ytjgokmnhhcpkcaa", sum := "a0a700da513fa730706202b911f7561bcc33219c3f80e33793ad66e35ced715d", func := "loop.example/g00033/laws.FnExactShift", spec := "fnExactShift", apart := false, narrowed := true }
def FnExactShiftUptoSaid : Prop := fnExactShiftUptoRow.holds Try.pinned (OpenSpec.upto fnExactShiftSpec)

/-- 'laws.FnExactShuffle', WHERE WHAT IT READS IS OF BULK AT MOST 1048576: true; the input reads as it did. -/
def fnExactShuffleUptoRow : OpenClaim := { program := "ytjgokmnhhcpkcaa", sum := "a0a700da513fa730706202b911f7561bcc33219c3f80e33793ad66e35ced715d", func := "loop.example/g00033/laws.FnExactShuffle", spec := "fnExactShuffle", apart := false, narrowed := true }
def FnExactShuffleUptoSaid : Prop := fnExactShuffleUptoRow.holds Try.pinned (OpenSpec.upto fnExactShuffleSpec)

end Rows
end Go.Proofs.Ytjgokmnhhcpkcaa
