/-
  No cell of these rows narrows 'for every input' (looked for: loops, veiled, ifaces, maps, wideKeys, modest, calm, conditions, laid).
  DERIVED. THE GIVEN ROWS OF THIS SEAT. 12 by the template 'for every input the law returns true; each argument reads behind the call as it read before'; 0 by the template 'total and deterministic' (their statements: YtbgpehoffkbgkaaTotals.lean).
  GIVEN WITH THE SEED: the statements are not yours to turn. If you find one false, say at which input.
  Laid BY PROGRAM, IN A SANDBOX (cutbox-rows.mjs): the forced cells as the released guide's own fill.sh prints them over the translation 90b465803e5c8b52… (all of the seat's roots in one cut). By AI agents, Wed Nov 11 2026. No macro, syntax, notation, axiom, sorry.
-/
import Derived.Test.YtbgpehoffkbgkaaChecked
import GoSem.Claim
import GoSem.ClaimJoined
import GoSem.ClaimMapViews
import Derived.JoinedTies
import Derived.KernelRfl
namespace Go.Proofs.Ytbgpehoffkbgkaa
/- THE CELL 'sum', in the pinned program and in every row, IS THE sha256 OF THE DUMP (.gsa) THAT YtbgpehoffkbgkaaProg.lean LOADS. Nothing in Lean hashes anything: it is a label: what it is worth is what the hold of that sum in a sandbox is worth. -/
noncomputable def Try.pinned : Pinned := { name := "ytbgpehoffkbgkaa", sum := "90b465803e5c8b52bea41be7c1fb1c532326257a8d7d94127bbe0cc4baec5877", checked := Try.checked }
namespace Rows
def none {H : Type} : Left H := { results := [], args := [] }

/-- 'laws.FnExactViewOk': WHATEVER THE INPUT: true; the input reads as it did. -/
def fnExactViewOkSpec : ChangeSpec := { name := "fnExactViewOk", fn := fun _ => fun
  | [d] => { results := [.lit (.bool true)], args := [d] }
  | _ => none }
def fnExactViewOkRow : OpenClaim := { program := "ytbgpehoffkbgkaa", sum := "90b465803e5c8b52bea41be7c1fb1c532326257a8d7d94127bbe0cc4baec5877", func := "loop.example/g00033/laws.FnExactViewOk", spec := "fnExactViewOk", apart := false }
def FnExactViewOkSaid : Prop := fnExactViewOkRow.holds Try.pinned (OpenSpec.ofChange fnExactViewOkSpec)

/-- ITS FALSE NEIGHBOUR: 'it returns false'. Refute it at one input. -/
def fnExactViewOkWrong : ChangeSpec := { name := "fnExactViewOk", fn := fun _ => fun
  | [d] => { results := [.lit (.bool false)], args := [d] }
  | _ => none }
def FnExactViewOkWrongFalsely : Prop := fnExactViewOkRow.holds Try.pinned (OpenSpec.ofChange fnExactViewOkWrong)

/-- 'laws.FnExactDimsOk': WHATEVER THE INPUT: true; the input reads as it did. -/
def fnExactDimsOkSpec : ChangeSpec := { name := "fnExactDimsOk", fn := fun _ => fun
  | [d] => { results := [.lit (.bool true)], args := [d] }
  | _ => none }
def fnExactDimsOkRow : OpenClaim := { program := "ytbgpehoffkbgkaa", sum := "90b465803e5c8b52bea41be7c1fb1c532326257a8d7d94127bbe0cc4baec5877", func := "loop.example/g00033/laws.FnExactDimsOk", spec := "fnExactDimsOk", apart := false }
def FnExactDimsOkSaid : Prop := fnExactDimsOkRow.holds Try.pinned (OpenSpec.ofChange fnExactDimsOkSpec)

/-- ITS FALSE NEIGHBOUR: 'it returns false'. Refute it at one input. -/
def fnExactDimsOkWrong : ChangeSpec := { name := "fnExactDimsOk", fn := fun _ => fun
  | [d] => { results := [.lit (.bool false)], args := [d] }
  | _ => none }
def FnExactDimsOkWrongFalsely : Prop := fnExactDimsOkRow.holds Try.pinned (OpenSpec.ofChange fnExactDimsOkWrong)

/-- 'laws.FnExactSizeOf': WHATEVER THE INPUT: true; the input reads as it did. -/
def fnExactSizeOfSpec : ChangeSpec := { name := "fnExactSizeOf", fn := fun _ => fun
  | [d] => { results := [.lit (.bool true)], args := [d] }
  | _ => none }
def fnExactSizeOfRow : OpenClaim := { program := "ytbgpehoffkbgkaa", sum := "90b465803e5c8b52bea41be7c1fb1c532326257a8d7d94127bbe0cc4baec5877", func := "loop.example/g00033/laws.FnExactSizeOf", spec := "fnExactSizeOf", apart := false }
def FnExactSizeOfSaid : Prop := fnExactSizeOfRow.holds Try.pinned (OpenSpec.ofChange fnExactSizeOfSpec)

/-- ITS FALSE NEIGHBOUR: 'it returns false'. Refute it at one input. -/
def fnExactSizeOfWrong : ChangeSpec := { name := "fnExactSizeOf", fn := fun _ => fun
  | [d] => { results := [.lit (.bool false)], args := [d] }
  | _ => none }
def FnExactSizeOfWrongFalsely : Prop := fnExactSizeOfRow.holds Try.pinned (OpenSpec.ofChange fnExactSizeOfWrong)

/-- 'laws.FnExactJoint': WHATEVER THE INPUT: true; the input reads as it did. -/
def fnExactJointSpec : ChangeSpec := { name := "fnExactJoint", fn := fun _ => fun
  | [d1, d2] => { results := [.lit (.bool true)], args := [d1, d2] }
  | _ => none }
def fnExactJointRow : OpenClaim := { program := "ytbgpehoffkbgkaa", sum := "90b465803e5c8b52bea41be7c1fb1c532326257a8d7d94127bbe0cc4baec5877", func := "loop.example/g00033/laws.FnExactJoint", spec := "fnExactJoint", apart := false }
def FnExactJointSaid : Prop := fnExactJointRow.holds Try.pinned (OpenSpec.ofChange fnExactJointSpec)

/-- ITS FALSE NEIGHBOUR: 'it returns false'. Refute it at one input. -/
def fnExactJointWrong : ChangeSpec := { name := "fnExactJoint", fn := fun _ => fun
  | [d1, d2] => { results := [.lit (.bool false)], args := [d1, d2] }
  | _ => none }
def FnExactJointWrongFalsely : Prop := fnExactJointRow.holds Try.pinned (OpenSpec.ofChange fnExactJointWrong)

/-- 'laws.FnExactTensorOk': WHATEVER THE INPUT: true; the input reads as it did. -/
def fnExactTensorOkSpec : ChangeSpec := { name := "fnExactTensorOk", fn := fun _ => fun
  | [d] => { results := [.lit (.bool true)], args := [d] }
  | _ => none }
def fnExactTensorOkRow : OpenClaim := { program := "ytbgpehoffkbgkaa", sum := "90b465803e5c8b52bea41be7c1fb1c532326257a8d7d94127bbe0cc4baec5877", func := "loop.example/g00033/laws.FnExactTensorOk", spec := "fnExactTensorOk", apart := false }
def FnExactTensorOkSaid : Prop := fnExactTensorOkRow.holds Try.pinned (OpenSpec.ofChange fnExactTensorOkSpec)

/-- ITS FALSE NEIGHBOUR: 'it returns false'. Refute it at one input. -/
def fnExactTensorOkWrong : ChangeSpec := { name := "fnExactTensorOk", fn := fun _ => fun
  | [d] => { results := [.lit (.bool false)], args := [d] }
  | _ => none }
def FnExactTensorOkWrongFalsely : Prop := fnExactTensorOkRow.holds Try.pinned (OpenSpec.ofChange fnExactTensorOkWrong)

/-- 'laws.FnExactCacheOk': WHATEVER THE INPUT: true; the input reads as it did. -/
def fnExactCacheOkSpec : ChangeSpec := { name := "fnExactCacheOk", fn := fun _ => fun
  | [d] => { results := [.lit (.bool true)], args := [d] }
  | _ => none }
def fnExactCacheOkRow : OpenClaim := { program := "ytbgpehoffkbgkaa", sum := "90b465803e5c8b52bea41be7c1fb1c532326257a8d7d94127bbe0cc4baec5877", func := "loop.example/g00033/laws.FnExactCacheOk", spec := "fnExactCacheOk", apart := false }
def FnExactCacheOkSaid : Prop := fnExactCacheOkRow.holds Try.pinned (OpenSpec.ofChange fnExactCacheOkSpec)

/-- ITS FALSE NEIGHBOUR: 'it returns false'. Refute it at one input. -/
def fnExactCacheOkWrong : ChangeSpec := { name := "fnExactCacheOk", fn := fun _ => fun
  | [d] => { results := [.lit (.bool false)], args := [d] }
  | _ => none }
def FnExactCacheOkWrongFalsely : Prop := fnExactCacheOkRow.holds Try.pinned (OpenSpec.ofChange fnExactCacheOkWrong)

/-- 'laws.FnExactFloor': WHATEVER THE INPUT: true; the input reads as it did. -/
def fnExactFloorSpec : ChangeSpec := { name := "fnExactFloor", fn := fun _ => fun
  | [d] => { results := [.lit (.bool true)], args := [d] }
  | _ => none }
def fnExactFloorRow : OpenClaim := { program := "ytbgpehoffkbgkaa", sum := "90b465803e5c8b52bea41be7c1fb1c532326257a8d7d94127bbe0cc4baec5877", func := "loop.example/g00033/laws.FnExactFloor", spec := "fnExactFloor", apart := false }
def FnExactFloorSaid : Prop := fnExactFloorRow.holds Try.pinned (OpenSpec.ofChange fnExactFloorSpec)

/-- ITS FALSE NEIGHBOUR: 'it returns false'. Refute it at one input. -/
def fnExactFloorWrong : ChangeSpec := { name := "fnExactFloor", fn := fun _ => fun
  | [d] => { results := [.lit (.bool false)], args := [d] }
  | _ => none }
def FnExactFloorWrongFalsely : Prop := fnExactFloorRow.holds Try.pinned (OpenSpec.ofChange fnExactFloorWrong)

/-- 'laws.FnExactOptOk': WHATEVER THE INPUT: true; the input reads as it did. -/
def fnExactOptOkSpec : ChangeSpec := { name := "fnExactOptOk", fn := fun _ => fun
  | [d] => { results := [.lit (.bool true)], args := [d] }
  | _ => none }
def fnExactOptOkRow : OpenClaim := { program := "ytbgpehoffkbgkaa", sum := "90b465803e5c8b52bea41be7c1fb1c532326257a8d7d94127bbe0cc4baec5877", func := "loop.example/g00033/laws.FnExactOptOk", spec := "fnExactOptOk", apart := false }
def FnExactOptOkSaid : Prop := fnExactOptOkRow.holds Try.pinned (OpenSpec.ofChange fnExactOptOkSpec)

/-- ITS FALSE NEIGHBOUR: 'it returns false'. Refute it at one input. -/
def fnExactOptOkWrong : ChangeSpec := { name := "fnExactOptOk", fn := fun _ => fun
  | [d] => { results := [.lit (.bool false)], args := [d] }
  | _ => none }
def FnExactOptOkWrongFalsely : Prop := fnExactOptOkRow.holds Try.pinned (OpenSpec.ofChange fnExactOptOkWrong)

/-- 'laws.FnExactNorm': WHATEVER THE INPUT: true; the input reads as it did. -/
def fnExactNormSpec : ChangeSpec := { name := "fnExactNorm", fn := fun _ => fun
  | [d] => { results := [.lit (.bool true)], args := [d] }
  | _ => none }
def fnExactNormRow : OpenClaim := { program := "ytbgpehoffkbgkaa", sum := "90b465803e5c8b52bea41be7c1fb1c532326257a8d7d94127bbe0cc4baec5877", func := "loop.example/g00033/laws.FnExactNorm", spec := "fnExactNorm", apart := false }
def FnExactNormSaid : Prop := fnExactNormRow.holds Try.pinned (OpenSpec.ofChange fnExactNormSpec)

/-- ITS FALSE NEIGHBOUR: 'it returns false'. Refute it at one input. -/
def fnExactNormWrong : ChangeSpec := { name := "fnExactNorm", fn := fun _ => fun
  | [d] => { results := [.lit (.bool false)], args := [d] }
  | _ => none }
def FnExactNormWrongFalsely : Prop := fnExactNormRow.holds Try.pinned (OpenSpec.ofChange fnExactNormWrong)

/-- 'laws.FnExactDotBytes': WHATEVER THE INPUT: true; the input reads as it did. -/
def fnExactDotBytesSpec : ChangeSpec := { name := "fnExactDotBytes", fn := fun _ => fun
  | [d1, d2, d3, d4] => { results := [.lit (.bool true)], args := [d1, d2, d3, d4] }
  | _ => none }
def fnExactDotBytesRow : OpenClaim := { program := "ytbgpehoffkbgkaa", sum := "90b465803e5c8b52bea41be7c1fb1c532326257a8d7d94127bbe0cc4baec5877", func := "loop.example/g00033/laws.FnExactDotBytes", spec := "fnExactDotBytes", apart := false }
def FnExactDotBytesSaid : Prop := fnExactDotBytesRow.holds Try.pinned (OpenSpec.ofChange fnExactDotBytesSpec)

/-- ITS FALSE NEIGHBOUR: 'it returns false'. Refute it at one input. -/
def fnExactDotBytesWrong : ChangeSpec := { name := "fnExactDotBytes", fn := fun _ => fun
  | [d1, d2, d3, d4] => { results := [.lit (.bool false)], args := [d1, d2, d3, d4] }
  | _ => none }
def FnExactDotBytesWrongFalsely : Prop := fnExactDotBytesRow.holds Try.pinned (OpenSpec.ofChange fnExactDotBytesWrong)

/-- 'laws.FnExactCalibrate': WHATEVER THE INPUT: true; the input reads as it did. -/
def fnExactCalibrateSpec : ChangeSpec := { name := "fnExactCalibrate", fn := fun _ => fun
  | [d] => { results := [.lit (.bool true)], args := [d] }
  | _ => none }
def fnExactCalibrateRow : OpenClaim := { program := "ytbgpehoffkbgkaa", sum := "90b465803e5c8b52bea41be7c1fb1c532326257a8d7d94127bbe0cc4baec5877", func := "loop.example/g00033/laws.FnExactCalibrate", spec := "fnExactCalibrate", apart := false }
def FnExactCalibrateSaid : Prop := fnExactCalibrateRow.holds Try.pinned (OpenSpec.ofChange fnExactCalibrateSpec)

/-- ITS FALSE NEIGHBOUR: 'it returns false'. Refute it at one input. -/
def fnExactCalibrateWrong : ChangeSpec := { name := "fnExactCalibrate", fn := fun _ => fun
  | [d] => { results := [.lit (.bool false)], args := [d] }
  | _ => none }
def FnExactCalibrateWrongFalsely : Prop := fnExactCalibrateRow.holds Try.pinned (OpenSpec.ofChange fnExactCalibrateWrong)

/-- 'laws.FnExactPickToken': WHATEVER THE INPUT: true; the input reads as it did. -/
def fnExactPickTokenSpec : ChangeSpec := { name := "fnExactPickToken", fn := fun _ => fun
  | [d1, d2] => { results := [.lit (.bool true)], args := [d1, d2] }
  | _ => none }
def fnExactPickTokenRow : OpenClaim := { program := "ytbgpehoffkbgkaa", sum := "90b465803e5c8b52bea41be7c1fb1c532326257a8d7d94127bbe0cc4baec5877", func := "loop.example/g00033/laws.FnExactPickToken", spec := "fnExactPickToken", apart := false }
def FnExactPickTokenSaid : Prop := fnExactPickTokenRow.holds Try.pinned (OpenSpec.ofChange fnExactPickTokenSpec)

/-- ITS FALSE NEIGHBOUR: 'it returns false'. Refute it at one input. -/
def fnExactPickTokenWrong : ChangeSpec := { name := "fnExactPickToken", fn := fun _ => fun
  | [d1, d2] => { results := [.lit (.bool false)], args := [d1, d2] }
  | _ => none }
def FnExactPickTokenWrongFalsely : Prop := fnExactPickTokenRow.holds Try.pinned (OpenSpec.ofChange fnExactPickTokenWrong)

/- THE SECOND FORM. 'bulk': how many values and letters a reading holds, each counted each time it is reached (what is shared counts as often as it is met; a slice's spare places count too). A statement '..UptoSaid' is the law's where the arguments, and the package variables that the reading takes, are together of bulk at most 1048576: NARROWER than '..Said'. Prove '..Said' where nothing that the law and all that it calls make is longer than what came in: it says more and counts as full. Else prove '..UptoSaid'. A law counts once. -/
mutual
def uptoBulk {H : Type} : DataW H → Nat
  | .lit (.string bytes) => bytes.length + 1
  | .lit _ => 1
  | .nil => 1
  | .ptr d => uptoBulk d + 1
  | .slice elems spare => uptoBulkAll elems + uptoBulkAll spare + 1
  | .agg parts => uptoBulkAll parts + 1
  | .iface _ d => uptoBulk d + 1
  | .map entries => uptoBulkEntries entries + 1
  | .held _ => 1
def uptoBulkAll {H : Type} : List (DataW H) → Nat
  | [] => 0
  | d :: r => uptoBulk d + uptoBulkAll r
def uptoBulkEntries {H : Type} : List (Lit × DataW H) → Nat
  | [] => 0
  | x :: r => uptoBulkEntry x + uptoBulkEntries r
def uptoBulkEntry {H : Type} : Lit × DataW H → Nat
  | (.string bytes, d) => bytes.length + uptoBulk d + 1
  | (_, d) => uptoBulk d + 1
 end
def uptoSmall : (H : Type) → List (DataW H) → Bool := fun _ ds => decide (uptoBulkAll ds ≤ 1048576)
def OpenSpec.upto (s : _root_.Go.ChangeSpec) : _root_.Go.OpenSpec := { _root_.Go.OpenSpec.ofChange s with cond := some uptoSmall }

/-- 'laws.FnExactViewOk', WHERE WHAT IT READS IS OF BULK AT MOST 1048576: true; the input reads as it did. -/
def fnExactViewOkUptoRow : OpenClaim := { program := "ytbgpehoffkbgkaa", sum := "90b465803e5c8b52bea41be7c1fb1c532326257a8d7d94127bbe0cc4baec5877", func := "loop.example/g00033/laws.FnExactViewOk", spec := "fnExactViewOk", apart := false, narrowed := true }
def FnExactViewOkUptoSaid : Prop := fnExactViewOkUptoRow.holds Try.pinned (OpenSpec.upto fnExactViewOkSpec)

/-- 'laws.FnExactDimsOk', WHERE WHAT IT READS IS OF BULK AT MOST 1048576: true; the input reads as it did. -/
def fnExactDimsOkUptoRow : OpenClaim := { program := "ytbgpehoffkbgkaa", sum := "90b465803e5c8b52bea41be7c1fb1c532326257a8d7d94127bbe0cc4baec5877", func := "loop.example/g00033/laws.FnExactDimsOk", spec := "fnExactDimsOk", apart := false, narrowed := true }
def FnExactDimsOkUptoSaid : Prop := fnExactDimsOkUptoRow.holds Try.pinned (OpenSpec.upto fnExactDimsOkSpec)

/-- 'laws.FnExactSizeOf', WHERE WHAT IT READS IS OF BULK AT MOST 1048576: true; the input reads as it did. -/
def fnExactSizeOfUptoRow : OpenClaim := { program := "ytbgpehoffkbgkaa", sum := "90b465803e5c8b52bea41be7c1fb1c532326257a8d7d94127bbe0cc4baec5877", func := "loop.example/g00033/laws.FnExactSizeOf", spec := "fnExactSizeOf", apart := false, narrowed := true }
def FnExactSizeOfUptoSaid : Prop := fnExactSizeOfUptoRow.holds Try.pinned (OpenSpec.upto fnExactSizeOfSpec)

/-- 'laws.FnExactJoint', WHERE WHAT IT READS IS OF BULK AT MOST 1048576: true; the input reads as it did. -/
def fnExactJointUptoRow : OpenClaim := { program := "ytbgpehoffkbgkaa", sum := "90b465803e5c8b52bea41be7c1fb1c532326257a8d7d94127bbe0cc4baec5877", func := "loop.example/g00033/laws.FnExactJoint", spec := "fnExactJoint", apart := false, narrowed := true }
def FnExactJointUptoSaid : Prop := fnExactJointUptoRow.holds Try.pinned (OpenSpec.upto fnExactJointSpec)

/-- 'laws.FnExactTensorOk', WHERE WHAT IT READS IS OF BULK AT MOST 1048576: true; the input reads as it did. -/
def fnExactTensorOkUptoRow : OpenClaim := { program := "ytbgpehoffkbgkaa", sum := "90b465803e5c8b52bea41be7c1fb1c532326257a8d7d94127bbe0cc4baec5877", func := "loop.example/g00033/laws.FnExactTensorOk", spec := "fnExactTensorOk", apart := false, narrowed := true }
def FnExactTensorOkUptoSaid : Prop := fnExactTensorOkUptoRow.holds Try.pinned (OpenSpec.upto fnExactTensorOkSpec)

/-- 'laws.FnExactCacheOk', WHERE WHAT IT READS IS OF BULK AT MOST 1048576: true; the input reads as it did. -/
def fnExactCacheOkUptoRow : OpenClaim := { program := "ytbgpehoffkbgkaa", sum := "90b465803e5c8b52bea41be7c1fb1c532326257a8d7d94127bbe0cc4baec5877", func := "loop.example/g00033/laws.FnExactCacheOk", spec := "fnExactCacheOk", apart := false, narrowed := true }
def FnExactCacheOkUptoSaid : Prop := fnExactCacheOkUptoRow.holds Try.pinned (OpenSpec.upto fnExactCacheOkSpec)

/-- 'laws.FnExactFloor', WHERE WHAT IT READS IS OF BULK AT MOST 1048576: true; the input reads as it did. -/
def fnExactFloorUptoRow : OpenClaim := { program := "ytbgpehoffkbgkaa", sum := "90b465803e5c8b52bea41be7c1fb1c532326257a8d7d94127bbe0cc4baec5877", func := "loop.example/g00033/laws.FnExactFloor", spec := "fnExactFloor", apart := false, narrowed := true }
def FnExactFloorUptoSaid : Prop := fnExactFloorUptoRow.holds Try.pinned (OpenSpec.upto fnExactFloorSpec)

/-- 'laws.FnExactOptOk', WHERE WHAT IT READS IS OF BULK AT MOST 1048576: true; the input reads as it did. -/
def fnExactOptOkUptoRow : OpenClaim := { program := "ytbgpehoffkbgkaa", sum := "90b465803e5c8b52bea41be7c1fb1c532326257a8d7d94127bbe0cc4baec5877", func := "loop.example/g00033/laws.FnExactOptOk", spec := "fnExactOptOk", apart := false, narrowed := true }
def FnExactOptOkUptoSaid : Prop := fnExactOptOkUptoRow.holds Try.pinned (OpenSpec.upto fnExactOptOkSpec)

/-- 'laws.FnExactNorm', WHERE WHAT IT READS IS OF BULK AT MOST 1048576: true; the input reads as it did. -/
def fnExactNormUptoRow : OpenClaim := { program := "ytbgpehoffkbgkaa", sum := "90b465803e5c8b52bea41be7c1fb1c532326257a8d7d94127bbe0cc4baec5877", func := "loop.example/g00033/laws.FnExactNorm", spec := "fnExactNorm", apart := false, narrowed := true }
def FnExactNormUptoSaid : Prop := fnExactNormUptoRow.holds Try.pinned (OpenSpec.upto fnExactNormSpec)

/-- 'laws.FnExactDotBytes', WHERE WHAT IT READS IS OF BULK AT MOST 1048576: true; the input reads as it did. -/
def fnExactDotBytesUptoRow : OpenClaim := { program := "ytbgpehoffkbgkaa", sum := "90b465803e5c8b52bea41be7c1fb1c532326257a8d7d94127bbe0cc4baec5877", func := "loop.example/g00033/laws.FnExactDotBytes", spec := "fnExactDotBytes", apart := false, narrowed := true }
def FnExactDotBytesUptoSaid : Prop := fnExactDotBytesUptoRow.holds Try.pinned (OpenSpec.upto fnExactDotBytesSpec)

/-- 'laws.FnExactCalibrate', WHERE WHAT IT READS IS OF BULK AT MOST 1048576: true; the input reads as it did. -/
def fnExactCalibrateUptoRow : OpenClaim := { program := "ytbgpehoffkbgkaa", sum := "90b465803e5c8b52bea41be7c1fb1c532326257a8d7d94127bbe0cc4baec5877", func := "loop.example/g00033/laws.FnExactCalibrate", spec := "fnExactCalibrate", apart := false, narrowed := true }
def FnExactCalibrateUptoSaid : Prop := fnExactCalibrateUptoRow.holds Try.pinned (OpenSpec.upto fnExactCalibrateSpec)

/-- 'laws.FnExactPickToken', WHERE WHAT IT READS IS OF BULK AT MOST 1048576: true; the input reads as it did. -/
def fnExactPickTokenUptoRow : OpenClaim := { program := "ytbgpehoffkbgkaa", sum := "90b465803e5c8b52bea41be7c1fb1c532326257a8d7d94127bbe0cc4baec5877", func := "loop.example/g00033/laws.FnExactPickToken", spec := "fnExactPickToken", apart := false, narrowed := true }
def FnExactPickTokenUptoSaid : Prop := fnExactPickTokenUptoRow.holds Try.pinned (OpenSpec.upto fnExactPickTokenSpec)

end Rows
end Go.Proofs.Ytbgpehoffkbgkaa
