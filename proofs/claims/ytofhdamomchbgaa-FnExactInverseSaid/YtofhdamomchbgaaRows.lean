/-
  No cell of these rows narrows 'for every input' (looked for: loops, veiled, ifaces, maps, wideKeys, modest, calm, conditions, laid).
  DERIVED. THE GIVEN ROWS OF THIS SEAT. 6 by the template 'for every input the law returns true; each argument reads behind the call as it read before'; 0 by the template 'total and deterministic' (their statements: YtofhdamomchbgaaTotals.lean).
  GIVEN WITH THE SEED: the statements are not yours to turn. If you find one false, say at which input.
  Laid BY PROGRAM, IN A SANDBOX (cutbox-rows.mjs): the forced cells as the released guide's own fill.sh prints them over the translation b10151de2076f8c4… (all of the seat's roots in one cut). By AI agents, Wed Nov 11 2026. No macro, syntax, notation, axiom, sorry.
-/
import Derived.Test.YtofhdamomchbgaaChecked
import GoSem.Claim
import GoSem.ClaimJoined
import GoSem.ClaimMapViews
import Derived.JoinedTies
import Derived.KernelRfl
namespace Go.Proofs.Ytofhdamomchbgaa
/- THE CELL 'sum', in the pinned program and in every row, IS THE sha256 OF THE DUMP (.gsa) THAT YtofhdamomchbgaaProg.lean LOADS. Nothing in Lean hashes anything: it is a label: what it is worth is what the hold of that sum in a sandbox is worth. -/
noncomputable def Try.pinned : Pinned := { name := "ytofhdamomchbgaa", sum := "b10151de2076f8c4f9a206b31c496587b57840f97fecc4cc6a7c439e96be5d54", checked := Try.checked }
namespace Rows
def none {H : Type} : Left H := { results := [], args := [] }

/-- 'laws.FnExactInverse': WHATEVER THE INPUT: true; the input reads as it did. -/
def fnExactInverseSpec : ChangeSpec := { name := "fnExactInverse", fn := fun _ => fun
  | [d] => { results := [.lit (.bool true)], args := [d] }
  | _ => none }
def fnExactInverseRow : OpenClaim := { program := "ytofhdamomchbgaa", sum := "b10151de2076f8c4f9a206b31c496587b57840f97fecc4cc6a7c439e96be5d54", func := "loop.example/g00033/laws.FnExactInverse", spec := "fnExactInverse", recurses := true, apart := false }
def FnExactInverseSaid : Prop := fnExactInverseRow.holds Try.pinned (OpenSpec.ofChange fnExactInverseSpec)

/-- ITS FALSE NEIGHBOUR: 'it returns false'. Refute it at one input. -/
def fnExactInverseWrong : ChangeSpec := { name := "fnExactInverse", fn := fun _ => fun
  | [d] => { results := [.lit (.bool false)], args := [d] }
  | _ => none }
def FnExactInverseWrongFalsely : Prop := fnExactInverseRow.holds Try.pinned (OpenSpec.ofChange fnExactInverseWrong)

/-- 'laws.FnExactOver': WHATEVER THE INPUT: true; the input reads as it did. -/
def fnExactOverSpec : ChangeSpec := { name := "fnExactOver", fn := fun _ => fun
  | [d1, d2] => { results := [.lit (.bool true)], args := [d1, d2] }
  | _ => none }
def fnExactOverRow : OpenClaim := { program := "ytofhdamomchbgaa", sum := "b10151de2076f8c4f9a206b31c496587b57840f97fecc4cc6a7c439e96be5d54", func := "loop.example/g00033/laws.FnExactOver", spec := "fnExactOver", recurses := true, apart := false }
def FnExactOverSaid : Prop := fnExactOverRow.holds Try.pinned (OpenSpec.ofChange fnExactOverSpec)

/-- ITS FALSE NEIGHBOUR: 'it returns false'. Refute it at one input. -/
def fnExactOverWrong : ChangeSpec := { name := "fnExactOver", fn := fun _ => fun
  | [d1, d2] => { results := [.lit (.bool false)], args := [d1, d2] }
  | _ => none }
def FnExactOverWrongFalsely : Prop := fnExactOverRow.holds Try.pinned (OpenSpec.ofChange fnExactOverWrong)

/-- 'laws.FnExactPower': WHATEVER THE INPUT: true; the input reads as it did. -/
def fnExactPowerSpec : ChangeSpec := { name := "fnExactPower", fn := fun _ => fun
  | [d1, d2] => { results := [.lit (.bool true)], args := [d1, d2] }
  | _ => none }
def fnExactPowerRow : OpenClaim := { program := "ytofhdamomchbgaa", sum := "b10151de2076f8c4f9a206b31c496587b57840f97fecc4cc6a7c439e96be5d54", func := "loop.example/g00033/laws.FnExactPower", spec := "fnExactPower", recurses := true, apart := false }
def FnExactPowerSaid : Prop := fnExactPowerRow.holds Try.pinned (OpenSpec.ofChange fnExactPowerSpec)

/-- ITS FALSE NEIGHBOUR: 'it returns false'. Refute it at one input. -/
def fnExactPowerWrong : ChangeSpec := { name := "fnExactPower", fn := fun _ => fun
  | [d1, d2] => { results := [.lit (.bool false)], args := [d1, d2] }
  | _ => none }
def FnExactPowerWrongFalsely : Prop := fnExactPowerRow.holds Try.pinned (OpenSpec.ofChange fnExactPowerWrong)

/-- 'laws.FnExactFracOk': WHATEVER THE INPUT: true; the input reads as it did. -/
def fnExactFracOkSpec : ChangeSpec := { name := "fnExactFracOk", fn := fun _ => fun
  | [d] => { results := [.lit (.bool true)], args := [d] }
  | _ => none }
def fnExactFracOkRow : OpenClaim := { program := "ytofhdamomchbgaa", sum := "b10151de2076f8c4f9a206b31c496587b57840f97fecc4cc6a7c439e96be5d54", func := "loop.example/g00033/laws.FnExactFracOk", spec := "fnExactFracOk", recurses := true, apart := false }
def FnExactFracOkSaid : Prop := fnExactFracOkRow.holds Try.pinned (OpenSpec.ofChange fnExactFracOkSpec)

/-- ITS FALSE NEIGHBOUR: 'it returns false'. Refute it at one input. -/
def fnExactFracOkWrong : ChangeSpec := { name := "fnExactFracOk", fn := fun _ => fun
  | [d] => { results := [.lit (.bool false)], args := [d] }
  | _ => none }
def FnExactFracOkWrongFalsely : Prop := fnExactFracOkRow.holds Try.pinned (OpenSpec.ofChange fnExactFracOkWrong)

/-- 'laws.FnExactOfFrac': WHATEVER THE INPUT: true; the input reads as it did. -/
def fnExactOfFracSpec : ChangeSpec := { name := "fnExactOfFrac", fn := fun _ => fun
  | [d] => { results := [.lit (.bool true)], args := [d] }
  | _ => none }
def fnExactOfFracRow : OpenClaim := { program := "ytofhdamomchbgaa", sum := "b10151de2076f8c4f9a206b31c496587b57840f97fecc4cc6a7c439e96be5d54", func := "loop.example/g00033/laws.FnExactOfFrac", spec := "fnExactOfFrac", recurses := true, apart := false }
def FnExactOfFracSaid : Prop := fnExactOfFracRow.holds Try.pinned (OpenSpec.ofChange fnExactOfFracSpec)

/-- ITS FALSE NEIGHBOUR: 'it returns false'. Refute it at one input. -/
def fnExactOfFracWrong : ChangeSpec := { name := "fnExactOfFrac", fn := fun _ => fun
  | [d] => { results := [.lit (.bool false)], args := [d] }
  | _ => none }
def FnExactOfFracWrongFalsely : Prop := fnExactOfFracRow.holds Try.pinned (OpenSpec.ofChange fnExactOfFracWrong)

/-- 'laws.FnField': WHATEVER THE INPUT: true; the input reads as it did. -/
def fnFieldSpec : ChangeSpec := { name := "fnField", fn := fun _ => fun
  | [d1, d2] => { results := [.lit (.bool true)], args := [d1, d2] }
  | _ => none }
def fnFieldRow : OpenClaim := { program := "ytofhdamomchbgaa", sum := "b10151de2076f8c4f9a206b31c496587b57840f97fecc4cc6a7c439e96be5d54", func := "loop.example/g00033/laws.FnField", spec := "fnField", recurses := true, apart := false }
def FnFieldSaid : Prop := fnFieldRow.holds Try.pinned (OpenSpec.ofChange fnFieldSpec)

/-- ITS FALSE NEIGHBOUR: 'it returns false'. Refute it at one input. -/
def fnFieldWrong : ChangeSpec := { name := "fnField", fn := fun _ => fun
  | [d1, d2] => { results := [.lit (.bool false)], args := [d1, d2] }
  | _ => none }
def FnFieldWrongFalsely : Prop := fnFieldRow.holds Try.pinned (OpenSpec.ofChange fnFieldWrong)

/- THE SECOND FORM. 'bulk': how many values and letters a reading holds, each counted each time it is reached (what is shared counts as often as it is met; a slice's spare places count too). A statement '..UptoSaid' is the law's where the arguments, and the package variables that the reading takes, are together of bulk at most 1048576: NARROWER than '..Said'. Prove '..Said' where nothing that the law and all that it calls make is longer than what came in: it says more and counts as full. Else prove '..UptoSaid'. A law counts once. -/
mutual
def uptoBulk {H : Type} : DataW H → Nat
  | .lit (.string bytes) => bytes.length + 1
  | .lit _ => 1
  | .nil => 1
  | .ptr d => uptoBulk d + 1
  | .slice elems spare => uptoBulkAll elems + uptoBulkAll spare + 1
  | .agg parts => uptoBulkAll parts + 1
  | .iface _ d => uptoBulk d + 1
  | .map entries => uptoBulkEntries entries + 1
  | .held _ => 1
def uptoBulkAll {H : Type} : List (DataW H) → Nat
  | [] => 0
  | d :: r => uptoBulk d + uptoBulkAll r
def uptoBulkEntries {H : Type} : List (Lit × DataW H) → Nat
  | [] => 0
  | x :: r => uptoBulkEntry x + uptoBulkEntries r
def uptoBulkEntry {H : Type} : Lit × DataW H → Nat
  | (.string bytes, d) => bytes.length + uptoBulk d + 1
  | (_, d) => uptoBulk d + 1
 end
def uptoSmall : (H : Type) → List (DataW H) → Bool := fun _ ds => decide (uptoBulkAll ds ≤ 1048576)
def OpenSpec.upto (s : _root_.Go.ChangeSpec) : _root_.Go.OpenSpec := { _root_.Go.OpenSpec.ofChange s with cond := some uptoSmall }

/-- 'laws.FnExactInverse', WHERE WHAT IT READS IS OF BULK AT MOST 1048576: true; the input reads as it did. -/
def fnExactInverseUptoRow : OpenClaim := { program := "ytofhdamomchbgaa", sum := "b10151de2076f8c4f9a206b31c496587b57840f97fecc4cc6a7c439e96be5d54", func := "loop.example/g00033/laws.FnExactInverse", spec := "fnExactInverse", recurses := true, apart := false, narrowed := true }
def FnExactInverseUptoSaid : Prop := fnExactInverseUptoRow.holds Try.pinned (OpenSpec.upto fnExactInverseSpec)

/-- 'laws.FnExactOver', WHERE WHAT IT READS IS OF BULK AT MOST 1048576: true; the input reads as it did. -/
def fnExactOverUptoRow : OpenClaim := { program := "ytofhdamomchbgaa", sum := "b10151de2076f8c4f9a206b31c496587b57840f97fecc4cc6a7c439e96be5d54", func := "loop.example/g00033/laws.FnExactOver", spec := "fnExactOver", recurses := true, apart := false, narrowed := true }
def FnExactOverUptoSaid : Prop := fnExactOverUptoRow.holds Try.pinned (OpenSpec.upto fnExactOverSpec)

/-- 'laws.FnExactPower', WHERE WHAT IT READS IS OF BULK AT MOST 1048576: true; the input reads as it did. -/
def fnExactPowerUptoRow : OpenClaim := { program := "ytofhdamomchbgaa", sum := "b10151de2076f8c4f9a206b31c496587b57840f97fecc4cc6a7c439e96be5d54", func := "loop.example/g00033/laws.FnExactPower", spec := "fnExactPower", recurses := true, apart := false, narrowed := true }
def FnExactPowerUptoSaid : Prop := fnExactPowerUptoRow.holds Try.pinned (OpenSpec.upto fnExactPowerSpec)

/-- 'laws.FnExactFracOk', WHERE WHAT IT READS IS OF BULK AT MOST 1048576: true; the input reads as it did. -/
def fnExactFracOkUptoRow : OpenClaim := { program := "ytofhdamomchbgaa", sum := "b10151de2076f8c4f9a206b31c496587b57840f97fecc4cc6a7c439e96be5d54", func := "loop.example/g00033/laws.FnExactFracOk", spec := "fnExactFracOk", recurses := true, apart := false, narrowed := true }
def FnExactFracOkUptoSaid : Prop := fnExactFracOkUptoRow.holds Try.pinned (OpenSpec.upto fnExactFracOkSpec)

/-- 'laws.FnExactOfFrac', WHERE WHAT IT READS IS OF BULK AT MOST 1048576: true; the input reads as it did. -/
def fnExactOfFracUptoRow : OpenClaim := { program := "ytofhdamomchbgaa", sum := "b10151de2076f8c4f9a206b31c496587b57840f97fecc4cc6a7c439e96be5d54", func := "loop.example/g00033/laws.FnExactOfFrac", spec := "fnExactOfFrac", recurses := true, apart := false, narrowed := true }
def FnExactOfFracUptoSaid : Prop := fnExactOfFracUptoRow.holds Try.pinned (OpenSpec.upto fnExactOfFracSpec)

/-- 'laws.FnField', WHERE WHAT IT READS IS OF BULK AT MOST 1048576: true; the input reads as it did. -/
def fnFieldUptoRow : OpenClaim := { program := "ytofhdamomchbgaa", sum := "b10151de2076f8c4f9a206b31c496587b57840f97fecc4cc6a7c439e96be5d54", func := "loop.example/g00033/laws.FnField", spec := "fnField", recurses := true, apart := false, narrowed := true }
def FnFieldUptoSaid : Prop := fnFieldUptoRow.holds Try.pinned (OpenSpec.upto fnFieldSpec)

end Rows
end Go.Proofs.Ytofhdamomchbgaa
