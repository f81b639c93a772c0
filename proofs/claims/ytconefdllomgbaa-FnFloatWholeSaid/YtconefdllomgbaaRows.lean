/-
  No cell of these rows narrows 'for every input' (looked for: loops, veiled, ifaces, maps, wideKeys, modest, calm, conditions, laid).
  DERIVED. THE GIVEN ROWS OF THIS SEAT. 8 by the template 'for every input the law returns true; each argument reads behind the call as it read before'; 0 by the template 'total and deterministic' (their statements: YtconefdllomgbaaTotals.lean).
  GIVEN WITH THE SEED: the statements are not yours to turn. If you find one false, say at which input.
  Laid BY PROGRAM, IN A SANDBOX (cutbox-rows.mjs): the forced cells as the released guide's own fill.sh prints them over the translation 4e5394e7bdd265d0… (all of the seat's roots in one cut). By AI agents, Wed Nov 11 2026. No macro, syntax, notation, axiom, sorry.
-/
import Derived.Test.YtconefdllomgbaaChecked
import GoSem.Claim
import GoSem.ClaimJoined
import GoSem.ClaimMapViews
import Derived.JoinedTies
import Derived.KernelRfl
namespace Go.Proofs.Ytconefdllomgbaa
/- THE CELL 'sum', in the pinned program and in every row, IS THE sha256 OF THE DUMP (.gsa) THAT YtconefdllomgbaaProg.lean LOADS. Nothing in Lean hashes anything: it is a label: what it is worth is what the hold of that sum in a sandbox is worth. -/
noncomputable def Try.pinned : Pinned := { name := "ytconefdllomgbaa", sum := "4e5394e7bdd265d060654c37b68d16f69f5d7fdbc24a500344d27826bd949ecb", checked := Try.checked }
namespace Rows
def none {H : Type} : Left H := { results := [], args := [] }

/-- 'laws.FnExactFAdd': WHATEVER THE INPUT: true; the input reads as it did. -/
def fnExactFAddSpec : ChangeSpec := { name := "fnExactFAdd", fn := fun _ => fun
  | [d1, d2] => { results := [.lit (.bool true)], args := [d1, d2] }
  | _ => none }
def fnExactFAddRow : OpenClaim := { program := "ytconefdllomgbaa", sum := "4e5394e7bdd265d060654c37b68d16f69f5d7fdbc24a500344d27826bd949ecb", func := "loop.example/g00033/laws.FnExactFAdd", spec := "fnExactFAdd", inPlace := ["math.Float32frombits", "math.Float32bits"], apart := false }
def FnExactFAddSaid : Prop := fnExactFAddRow.holds Try.pinned (OpenSpec.ofChange fnExactFAddSpec)

/-- ITS FALSE NEIGHBOUR: 'it returns false'. Refute it at one input. -/
def fnExactFAddWrong : ChangeSpec := { name := "fnExactFAdd", fn := fun _ => fun
  | [d1, d2] => { results := [.lit (.bool false)], args := [d1, d2] }
  | _ => none }
def FnExactFAddWrongFalsely : Prop := fnExactFAddRow.holds Try.pinned (OpenSpec.ofChange fnExactFAddWrong)

/-- 'laws.FnExactFMul': WHATEVER THE INPUT: true; the input reads as it did. -/
def fnExactFMulSpec : ChangeSpec := { name := "fnExactFMul", fn := fun _ => fun
  | [d1, d2] => { results := [.lit (.bool true)], args := [d1, d2] }
  | _ => none }
def fnExactFMulRow : OpenClaim := { program := "ytconefdllomgbaa", sum := "4e5394e7bdd265d060654c37b68d16f69f5d7fdbc24a500344d27826bd949ecb", func := "loop.example/g00033/laws.FnExactFMul", spec := "fnExactFMul", inPlace := ["math.Float32frombits", "math.Float32bits"], apart := false }
def FnExactFMulSaid : Prop := fnExactFMulRow.holds Try.pinned (OpenSpec.ofChange fnExactFMulSpec)

/-- ITS FALSE NEIGHBOUR: 'it returns false'. Refute it at one input. -/
def fnExactFMulWrong : ChangeSpec := { name := "fnExactFMul", fn := fun _ => fun
  | [d1, d2] => { results := [.lit (.bool false)], args := [d1, d2] }
  | _ => none }
def FnExactFMulWrongFalsely : Prop := fnExactFMulRow.holds Try.pinned (OpenSpec.ofChange fnExactFMulWrong)

/-- 'laws.FnExactFDiv': WHATEVER THE INPUT: true; the input reads as it did. -/
def fnExactFDivSpec : ChangeSpec := { name := "fnExactFDiv", fn := fun _ => fun
  | [d1, d2] => { results := [.lit (.bool true)], args := [d1, d2] }
  | _ => none }
def fnExactFDivRow : OpenClaim := { program := "ytconefdllomgbaa", sum := "4e5394e7bdd265d060654c37b68d16f69f5d7fdbc24a500344d27826bd949ecb", func := "loop.example/g00033/laws.FnExactFDiv", spec := "fnExactFDiv", inPlace := ["math.Float32frombits", "math.Float32bits"], apart := false }
def FnExactFDivSaid : Prop := fnExactFDivRow.holds Try.pinned (OpenSpec.ofChange fnExactFDivSpec)

/-- ITS FALSE NEIGHBOUR: 'it returns false'. Refute it at one input. -/
def fnExactFDivWrong : ChangeSpec := { name := "fnExactFDiv", fn := fun _ => fun
  | [d1, d2] => { results := [.lit (.bool false)], args := [d1, d2] }
  | _ => none }
def FnExactFDivWrongFalsely : Prop := fnExactFDivRow.holds Try.pinned (OpenSpec.ofChange fnExactFDivWrong)

/-- 'laws.FnExactFLess': WHATEVER THE INPUT: true; the input reads as it did. -/
def fnExactFLessSpec : ChangeSpec := { name := "fnExactFLess", fn := fun _ => fun
  | [d1, d2] => { results := [.lit (.bool true)], args := [d1, d2] }
  | _ => none }
def fnExactFLessRow : OpenClaim := { program := "ytconefdllomgbaa", sum := "4e5394e7bdd265d060654c37b68d16f69f5d7fdbc24a500344d27826bd949ecb", func := "loop.example/g00033/laws.FnExactFLess", spec := "fnExactFLess", inPlace := ["math.Float32frombits"], apart := false }
def FnExactFLessSaid : Prop := fnExactFLessRow.holds Try.pinned (OpenSpec.ofChange fnExactFLessSpec)

/-- ITS FALSE NEIGHBOUR: 'it returns false'. Refute it at one input. -/
def fnExactFLessWrong : ChangeSpec := { name := "fnExactFLess", fn := fun _ => fun
  | [d1, d2] => { results := [.lit (.bool false)], args := [d1, d2] }
  | _ => none }
def FnExactFLessWrongFalsely : Prop := fnExactFLessRow.holds Try.pinned (OpenSpec.ofChange fnExactFLessWrong)

/-- 'laws.FnExactFNeg': WHATEVER THE INPUT: true; the input reads as it did. -/
def fnExactFNegSpec : ChangeSpec := { name := "fnExactFNeg", fn := fun _ => fun
  | [d] => { results := [.lit (.bool true)], args := [d] }
  | _ => none }
def fnExactFNegRow : OpenClaim := { program := "ytconefdllomgbaa", sum := "4e5394e7bdd265d060654c37b68d16f69f5d7fdbc24a500344d27826bd949ecb", func := "loop.example/g00033/laws.FnExactFNeg", spec := "fnExactFNeg", inPlace := ["math.Float32frombits"], apart := false }
def FnExactFNegSaid : Prop := fnExactFNegRow.holds Try.pinned (OpenSpec.ofChange fnExactFNegSpec)

/-- ITS FALSE NEIGHBOUR: 'it returns false'. Refute it at one input. -/
def fnExactFNegWrong : ChangeSpec := { name := "fnExactFNeg", fn := fun _ => fun
  | [d] => { results := [.lit (.bool false)], args := [d] }
  | _ => none }
def FnExactFNegWrongFalsely : Prop := fnExactFNegRow.holds Try.pinned (OpenSpec.ofChange fnExactFNegWrong)

/-- 'laws.FnExactFOfInt': WHATEVER THE INPUT: true; the input reads as it did. -/
def fnExactFOfIntSpec : ChangeSpec := { name := "fnExactFOfInt", fn := fun _ => fun
  | [d] => { results := [.lit (.bool true)], args := [d] }
  | _ => none }
def fnExactFOfIntRow : OpenClaim := { program := "ytconefdllomgbaa", sum := "4e5394e7bdd265d060654c37b68d16f69f5d7fdbc24a500344d27826bd949ecb", func := "loop.example/g00033/laws.FnExactFOfInt", spec := "fnExactFOfInt", inPlace := ["math.Float32bits"], recurses := true, apart := false }
def FnExactFOfIntSaid : Prop := fnExactFOfIntRow.holds Try.pinned (OpenSpec.ofChange fnExactFOfIntSpec)

/-- ITS FALSE NEIGHBOUR: 'it returns false'. Refute it at one input. -/
def fnExactFOfIntWrong : ChangeSpec := { name := "fnExactFOfInt", fn := fun _ => fun
  | [d] => { results := [.lit (.bool false)], args := [d] }
  | _ => none }
def FnExactFOfIntWrongFalsely : Prop := fnExactFOfIntRow.holds Try.pinned (OpenSpec.ofChange fnExactFOfIntWrong)

/-- 'laws.FnExactFToInt': WHATEVER THE INPUT: true; the input reads as it did. -/
def fnExactFToIntSpec : ChangeSpec := { name := "fnExactFToInt", fn := fun _ => fun
  | [d] => { results := [.lit (.bool true)], args := [d] }
  | _ => none }
def fnExactFToIntRow : OpenClaim := { program := "ytconefdllomgbaa", sum := "4e5394e7bdd265d060654c37b68d16f69f5d7fdbc24a500344d27826bd949ecb", func := "loop.example/g00033/laws.FnExactFToInt", spec := "fnExactFToInt", inPlace := ["math.Float32frombits", "math.RoundToEven"], apart := false }
def FnExactFToIntSaid : Prop := fnExactFToIntRow.holds Try.pinned (OpenSpec.ofChange fnExactFToIntSpec)

/-- ITS FALSE NEIGHBOUR: 'it returns false'. Refute it at one input. -/
def fnExactFToIntWrong : ChangeSpec := { name := "fnExactFToInt", fn := fun _ => fun
  | [d] => { results := [.lit (.bool false)], args := [d] }
  | _ => none }
def FnExactFToIntWrongFalsely : Prop := fnExactFToIntRow.holds Try.pinned (OpenSpec.ofChange fnExactFToIntWrong)

/-- 'laws.FnFloatWhole': WHATEVER THE INPUT: true; the input reads as it did. -/
def fnFloatWholeSpec : ChangeSpec := { name := "fnFloatWhole", fn := fun _ => fun
  | [d] => { results := [.lit (.bool true)], args := [d] }
  | _ => none }
def fnFloatWholeRow : OpenClaim := { program := "ytconefdllomgbaa", sum := "4e5394e7bdd265d060654c37b68d16f69f5d7fdbc24a500344d27826bd949ecb", func := "loop.example/g00033/laws.FnFloatWhole", spec := "fnFloatWhole", inPlace := ["math.Float32bits", "math.Float32frombits", "math.RoundToEven"], apart := false }
def FnFloatWholeSaid : Prop := fnFloatWholeRow.holds Try.pinned (OpenSpec.ofChange fnFloatWholeSpec)

/-- ITS FALSE NEIGHBOUR: 'it returns false'. Refute it at one input. -/
def fnFloatWholeWrong : ChangeSpec := { name := "fnFloatWhole", fn := fun _ => fun
  | [d] => { results := [.lit (.bool false)], args := [d] }
  | _ => none }
def FnFloatWholeWrongFalsely : Prop := fnFloatWholeRow.holds Try.pinned (OpenSpec.ofChange fnFloatWholeWrong)

/- THE SECOND FORM. 'bulk': how many values and letters a reading holds, each counted each time it is reached (what is shared counts as often as it is met; a slice's spare places count too). A statement '..UptoSaid' is the law's where the arguments, and the package variables that the reading takes, are together of bulk at most 1048576: NARROWER than '..Said'. Prove '..Said' where nothing that the law and all that it calls make is longer than what came in: it says more and counts as full. Else prove '..UptoSaid'. A law counts once. -/
mutual
def uptoBulk {H : Type} : DataW H → Nat
  | .lit (.string bytes) => bytes.length + 1
  | .lit _ => 1
  | .nil => 1
  | .ptr d => uptoBulk d + 1
  | .slice elems spare => uptoBulkAll elems + uptoBulkAll spare + 1
  | .agg parts => uptoBulkAll parts + 1
  | .iface _ d => uptoBulk d + 1
  | .map entries => uptoBulkEntries entries + 1
  | .held _ => 1
def uptoBulkAll {H : Type} : List (DataW H) → Nat
  | [] => 0
  | d :: r => uptoBulk d + uptoBulkAll r
def uptoBulkEntries {H : Type} : List (Lit × DataW H) → Nat
  | [] => 0
  | x :: r => uptoBulkEntry x + uptoBulkEntries r
def uptoBulkEntry {H : Type} : Lit × DataW H → Nat
  | (.string bytes, d) => bytes.length + uptoBulk d + 1
  | (_, d) => uptoBulk d + 1
 end
def uptoSmall : (H : Type) → List (DataW H) → Bool := fun _ ds => decide (uptoBulkAll ds ≤ 1048576)
def OpenSpec.upto (s : _root_.Go.ChangeSpec) : _root_.Go.OpenSpec := { _root_.Go.OpenSpec.ofChange s with cond := some uptoSmall }

/-- 'laws.FnExactFAdd', WHERE WHAT IT READS IS OF BULK AT MOST 1048576: true; the input reads as it did. -/
def fnExactFAddUptoRow : OpenClaim := { program := "ytconefdllomgbaa", sum := "4e5394e7bdd265d060654c37b68d16f69f5d7fdbc24a500344d27826bd949ecb", func := "loop.example/g00033/laws.FnExactFAdd", spec := "fnExactFAdd", inPlace := ["math.Float32frombits", "math.Float32bits"], apart := false, narrowed := true }
def FnExactFAddUptoSaid : Prop := fnExactFAddUptoRow.holds Try.pinned (OpenSpec.upto fnExactFAddSpec)

/-- 'laws.FnExactFMul', WHERE WHAT IT READS IS OF BULK AT MOST 1048576: true; the input reads as it did. -/
def fnExactFMulUptoRow : OpenClaim := { program := "ytconefdllomgbaa", sum := "4e5394e7bdd265d060654c37b68d16f69f5d7fdbc24a500344d27826bd949ecb", func := "loop.example/g00033/laws.FnExactFMul", spec := "fnExactFMul", inPlace := ["math.Float32frombits", "math.Float32bits"], apart := false, narrowed := true }
def FnExactFMulUptoSaid : Prop := fnExactFMulUptoRow.holds Try.pinned (OpenSpec.upto fnExactFMulSpec)

/-- 'laws.FnExactFDiv', WHERE WHAT IT READS IS OF BULK AT MOST 1048576: true; the input reads as it did. -/
def fnExactFDivUptoRow : OpenClaim := { program := "ytconefdllomgbaa", sum := "4e5394e7bdd265d060654c37b68d16f69f5d7fdbc24a500344d27826bd949ecb", func := "loop.example/g00033/laws.FnExactFDiv", spec := "fnExactFDiv", inPlace := ["math.Float32frombits", "math.Float32bits"], apart := false, narrowed := true }
def FnExactFDivUptoSaid : Prop := fnExactFDivUptoRow.holds Try.pinned (OpenSpec.upto fnExactFDivSpec)

/-- 'laws.FnExactFLess', WHERE WHAT IT READS IS OF BULK AT MOST 1048576: true; the input reads as it did. -/
def fnExactFLessUptoRow : OpenClaim := { program := "ytconefdllomgbaa", sum := "4e5394e7bdd265d060654c37b68d16f69f5d7fdbc24a500344d27826bd949ecb", func := "loop.example/g00033/laws.FnExactFLess", spec := "fnExactFLess", inPlace := ["math.Float32frombits"], apart := false, narrowed := true }
def FnExactFLessUptoSaid : Prop := fnExactFLessUptoRow.holds Try.pinned (OpenSpec.upto fnExactFLessSpec)

/-- 'laws.FnExactFNeg', WHERE WHAT IT READS IS OF BULK AT MOST 1048576: true; the input reads as it did. -/
def fnExactFNegUptoRow : OpenClaim := { program := "ytconefdllomgbaa", sum := "4e5394e7bdd265d060654c37b68d16f69f5d7fdbc24a500344d27826bd949ecb", func := "loop.example/g00033/laws.FnExactFNeg", spec := "fnExactFNeg", inPlace := ["math.Float32frombits"], apart := false, narrowed := true }
def FnExactFNegUptoSaid : Prop := fnExactFNegUptoRow.holds Try.pinned (OpenSpec.upto fnExactFNegSpec)

/-- 'laws.FnExactFOfInt', WHERE WHAT IT READS IS OF BULK AT MOST 1048576: true; the input reads as it did. -/
def fnExactFOfIntUptoRow : OpenClaim := { program := "ytconefdllomgbaa", sum := "4e5394e7bdd265d060654c37b68d16f69f5d7fdbc24a500344d27826bd949ecb", func := "loop.example/g00033/laws.FnExactFOfInt", spec := "fnExactFOfInt", inPlace := ["math.Float32bits"], recurses := true, apart := false, narrowed := true }
def FnExactFOfIntUptoSaid : Prop := fnExactFOfIntUptoRow.holds Try.pinned (OpenSpec.upto fnExactFOfIntSpec)

/-- 'laws.FnExactFToInt', WHERE WHAT IT READS IS OF BULK AT MOST 1048576: true; the input reads as it did. -/
def fnExactFToIntUptoRow : OpenClaim := { program := "ytconefdllomgbaa", sum := "4e5394e7bdd265d060654c37b68d16f69f5d7fdbc24a500344d27826bd949ecb", func := "loop.example/g00033/laws.FnExactFToInt", spec := "fnExactFToInt", inPlace := ["math.Float32frombits", "math.RoundToEven"], apart := false, narrowed := true }
def FnExactFToIntUptoSaid : Prop := fnExactFToIntUptoRow.holds Try.pinned (OpenSpec.upto fnExactFToIntSpec)

/-- 'laws.FnFloatWhole', WHERE WHAT IT READS IS OF BULK AT MOST 1048576: true; the input reads as it did. -/
def fnFloatWholeUptoRow : OpenClaim := { program := "ytconefdllomgbaa", sum := "4e5394e7bdd265d060654c37b68d16f69f5d7fdbc24a500344d27826bd949ecb", func := "loop.example/g00033/laws.FnFloatWhole", spec := "fnFloatWhole", inPlace := ["math.Float32bits", "math.Float32frombits", "math.RoundToEven"], apart := false, narrowed := true }
def FnFloatWholeUptoSaid : Prop := fnFloatWholeUptoRow.holds Try.pinned (OpenSpec.upto fnFloatWholeSpec)

end Rows
end Go.Proofs.Ytconefdllomgbaa
