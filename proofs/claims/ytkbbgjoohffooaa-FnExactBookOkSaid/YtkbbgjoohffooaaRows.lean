/-
  No cell of these rows narrows 'for every input' (looked for: loops, veiled, ifaces, maps, wideKeys, modest, calm, conditions, laid).
  DERIVED. THE GIVEN ROWS OF THIS SEAT. 8 by the template 'for every input the law returns true; each argument reads behind the call as it read before'; 0 by the template 'total and deterministic' (their statements: YtkbbgjoohffooaaTotals.lean).
  GIVEN WITH THE SEED: the statements are not yours to turn. If you find one false, say at which input.
  Laid BY PROGRAM, IN A SANDBOX (cutbox-rows.mjs): the forced cells as the released guide's own fill.sh prints them over the translation 092d8c837b6e835d… (all of the seat's roots in one cut). By AI agents, Wed Nov 11 2026. No macro, syntax, notation, axiom, sorry.
-/
import Derived.Test.YtkbbgjoohffooaaChecked
import GoSem.Claim
import GoSem.ClaimJoined
import GoSem.ClaimMapViews
import Derived.JoinedTies
import Derived.KernelRfl
namespace Go.Proofs.Ytkbbgjoohffooaa
/- THE CELL 'sum', in the pinned program and in every row, IS THE sha256 OF THE DUMP (.gsa) THAT YtkbbgjoohffooaaProg.lean LOADS. Nothing in Lean hashes anything: it is a label: what it is worth is what the hold of that sum in a sandbox is worth. -/
noncomputable def Try.pinned : Pinned := { name := "ytkbbgjoohffooaa", sum := "092d8c837b6e835de39f0ed0d0abda6c9fe5ad087cce0631b215129db8ed7fb1", checked := Try.checked }
namespace Rows
def none {H : Type} : Left H := { results := [], args := [] }

/-- 'laws.FnExactRing': WHATEVER THE INPUT: true; the input reads as it did. -/
def fnExactRingSpec : ChangeSpec := { name := "fnExactRing", fn := fun _ => fun
  | [d] => { results := [.lit (.bool true)], args := [d] }
  | _ => none }
def fnExactRingRow : OpenClaim := { program := "ytkbbgjoohffooaa", sum := "092d8c837b6e835de39f0ed0d0abda6c9fe5ad087cce0631b215129db8ed7fb1", func := "loop.example/g00033/laws.FnExactRing", spec := "fnExactRing", plainKeys := false, apart := false }
def FnExactRingSaid : Prop := fnExactRingRow.holds Try.pinned (OpenSpec.ofChange fnExactRingSpec)

/-- ITS FALSE NEIGHBOUR: 'it returns false'. Refute it at one input. -/
def fnExactRingWrong : ChangeSpec := { name := "fnExactRing", fn := fun _ => fun
  | [d] => { results := [.lit (.bool false)], args := [d] }
  | _ => none }
def FnExactRingWrongFalsely : Prop := fnExactRingRow.holds Try.pinned (OpenSpec.ofChange fnExactRingWrong)

/-- 'laws.FnExactRound': WHATEVER THE INPUT: true; the input reads as it did. -/
def fnExactRoundSpec : ChangeSpec := { name := "fnExactRound", fn := fun _ => fun
  | [d] => { results := [.lit (.bool true)], args := [d] }
  | _ => none }
def fnExactRoundRow : OpenClaim := { program := "ytkbbgjoohffooaa", sum := "092d8c837b6e835de39f0ed0d0abda6c9fe5ad087cce0631b215129db8ed7fb1", func := "loop.example/g00033/laws.FnExactRound", spec := "fnExactRound", plainKeys := false, apart := false }
def FnExactRoundSaid : Prop := fnExactRoundRow.holds Try.pinned (OpenSpec.ofChange fnExactRoundSpec)

/-- ITS FALSE NEIGHBOUR: 'it returns false'. Refute it at one input. -/
def fnExactRoundWrong : ChangeSpec := { name := "fnExactRound", fn := fun _ => fun
  | [d] => { results := [.lit (.bool false)], args := [d] }
  | _ => none }
def FnExactRoundWrongFalsely : Prop := fnExactRoundRow.holds Try.pinned (OpenSpec.ofChange fnExactRoundWrong)

/-- 'laws.FnExactTokenText': WHATEVER THE INPUT: true; the input reads as it did. -/
def fnExactTokenTextSpec : ChangeSpec := { name := "fnExactTokenText", fn := fun _ => fun
  | [d1, d2] => { results := [.lit (.bool true)], args := [d1, d2] }
  | _ => none }
def fnExactTokenTextRow : OpenClaim := { program := "ytkbbgjoohffooaa", sum := "092d8c837b6e835de39f0ed0d0abda6c9fe5ad087cce0631b215129db8ed7fb1", func := "loop.example/g00033/laws.FnExactTokenText", spec := "fnExactTokenText", plainKeys := false, apart := false }
def FnExactTokenTextSaid : Prop := fnExactTokenTextRow.holds Try.pinned (OpenSpec.ofChange fnExactTokenTextSpec)

/-- ITS FALSE NEIGHBOUR: 'it returns false'. Refute it at one input. -/
def fnExactTokenTextWrong : ChangeSpec := { name := "fnExactTokenText", fn := fun _ => fun
  | [d1, d2] => { results := [.lit (.bool false)], args := [d1, d2] }
  | _ => none }
def FnExactTokenTextWrongFalsely : Prop := fnExactTokenTextRow.holds Try.pinned (OpenSpec.ofChange fnExactTokenTextWrong)

/-- 'laws.FnExactBookOk': WHATEVER THE INPUT: true; the input reads as it did. -/
def fnExactBookOkSpec : ChangeSpec := { name := "fnExactBookOk", fn := fun _ => fun
  | [d] => { results := [.lit (.bool true)], args := [d] }
  | _ => none }
def fnExactBookOkRow : OpenClaim := { program := "ytkbbgjoohffooaa", sum := "092d8c837b6e835de39f0ed0d0abda6c9fe5ad087cce0631b215129db8ed7fb1", func := "loop.example/g00033/laws.FnExactBookOk", spec := "fnExactBookOk", plainKeys := false, apart := false }
def FnExactBookOkSaid : Prop := fnExactBookOkRow.holds Try.pinned (OpenSpec.ofChange fnExactBookOkSpec)

/-- ITS FALSE NEIGHBOUR: 'it returns false'. Refute it at one input. -/
def fnExactBookOkWrong : ChangeSpec := { name := "fnExactBookOk", fn := fun _ => fun
  | [d] => { results := [.lit (.bool false)], args := [d] }
  | _ => none }
def FnExactBookOkWrongFalsely : Prop := fnExactBookOkRow.holds Try.pinned (OpenSpec.ofChange fnExactBookOkWrong)

/-- 'laws.FnExactMovesOk': WHATEVER THE INPUT: true; the input reads as it did. -/
def fnExactMovesOkSpec : ChangeSpec := { name := "fnExactMovesOk", fn := fun _ => fun
  | [d1, d2, d3] => { results := [.lit (.bool true)], args := [d1, d2, d3] }
  | _ => none }
def fnExactMovesOkRow : OpenClaim := { program := "ytkbbgjoohffooaa", sum := "092d8c837b6e835de39f0ed0d0abda6c9fe5ad087cce0631b215129db8ed7fb1", func := "loop.example/g00033/laws.FnExactMovesOk", spec := "fnExactMovesOk", plainKeys := false, apart := false }
def FnExactMovesOkSaid : Prop := fnExactMovesOkRow.holds Try.pinned (OpenSpec.ofChange fnExactMovesOkSpec)

/-- ITS FALSE NEIGHBOUR: 'it returns false'. Refute it at one input. -/
def fnExactMovesOkWrong : ChangeSpec := { name := "fnExactMovesOk", fn := fun _ => fun
  | [d1, d2, d3] => { results := [.lit (.bool false)], args := [d1, d2, d3] }
  | _ => none }
def FnExactMovesOkWrongFalsely : Prop := fnExactMovesOkRow.holds Try.pinned (OpenSpec.ofChange fnExactMovesOkWrong)

/-- 'laws.FnExactToFrac': WHATEVER THE INPUT: true; the input reads as it did. -/
def fnExactToFracSpec : ChangeSpec := { name := "fnExactToFrac", fn := fun _ => fun
  | [d] => { results := [.lit (.bool true)], args := [d] }
  | _ => none }
def fnExactToFracRow : OpenClaim := { program := "ytkbbgjoohffooaa", sum := "092d8c837b6e835de39f0ed0d0abda6c9fe5ad087cce0631b215129db8ed7fb1", func := "loop.example/g00033/laws.FnExactToFrac", spec := "fnExactToFrac", unfollowed := true, recurses := true, plainKeys := false, apart := false }
def FnExactToFracSaid : Prop := fnExactToFracRow.holds Try.pinned (OpenSpec.ofChange fnExactToFracSpec)

/-- ITS FALSE NEIGHBOUR: 'it returns false'. Refute it at one input. -/
def fnExactToFracWrong : ChangeSpec := { name := "fnExactToFrac", fn := fun _ => fun
  | [d] => { results := [.lit (.bool false)], args := [d] }
  | _ => none }
def FnExactToFracWrongFalsely : Prop := fnExactToFracRow.holds Try.pinned (OpenSpec.ofChange fnExactToFracWrong)

/-- 'laws.FnExactJoint': WHATEVER THE INPUT: true; the input reads as it did. -/
def fnExactJointSpec : ChangeSpec := { name := "fnExactJoint", fn := fun _ => fun
  | [d1, d2] => { results := [.lit (.bool true)], args := [d1, d2] }
  | _ => none }
def fnExactJointRow : OpenClaim := { program := "ytkbbgjoohffooaa", sum := "092d8c837b6e835de39f0ed0d0abda6c9fe5ad087cce0631b215129db8ed7fb1", func := "loop.example/g00033/laws.FnExactJoint", spec := "fnExactJoint", plainKeys := false, apart := false }
def FnExactJointSaid : Prop := fnExactJointRow.holds Try.pinned (OpenSpec.ofChange fnExactJointSpec)

/-- ITS FALSE NEIGHBOUR: 'it returns false'. Refute it at one input. -/
def fnExactJointWrong : ChangeSpec := { name := "fnExactJoint", fn := fun _ => fun
  | [d1, d2] => { results := [.lit (.bool false)], args := [d1, d2] }
  | _ => none }
def FnExactJointWrongFalsely : Prop := fnExactJointRow.holds Try.pinned (OpenSpec.ofChange fnExactJointWrong)

/-- 'laws.FnExactCacheOk': WHATEVER THE INPUT: true; the input reads as it did. -/
def fnExactCacheOkSpec : ChangeSpec := { name := "fnExactCacheOk", fn := fun _ => fun
  | [d] => { results := [.lit (.bool true)], args := [d] }
  | _ => none }
def fnExactCacheOkRow : OpenClaim := { program := "ytkbbgjoohffooaa", sum := "092d8c837b6e835de39f0ed0d0abda6c9fe5ad087cce0631b215129db8ed7fb1", func := "loop.example/g00033/laws.FnExactCacheOk", spec := "fnExactCacheOk", plainKeys := false, apart := false }
def FnExactCacheOkSaid : Prop := fnExactCacheOkRow.holds Try.pinned (OpenSpec.ofChange fnExactCacheOkSpec)

/-- ITS FALSE NEIGHBOUR: 'it returns false'. Refute it at one input. -/
def fnExactCacheOkWrong : ChangeSpec := { name := "fnExactCacheOk", fn := fun _ => fun
  | [d] => { results := [.lit (.bool false)], args := [d] }
  | _ => none }
def FnExactCacheOkWrongFalsely : Prop := fnExactCacheOkRow.holds Try.pinned (OpenSpec.ofChange fnExactCacheOkWrong)

/- THE SECOND FORM. 'bulk': how many values and letters a reading holds, each counted each time it is reached (what is shared counts as often as it is met; a slice's spare places count too). A statement '..UptoSaid' is the law's where the arguments, and the package variables that the reading takes, are together of bulk at most 1048576: NARROWER than '..Said'. Prove '..Said' where nothing that the law and all that it calls make is longer than what came in: it says more and counts as full. Else prove '..UptoSaid'. A law counts once. -/
mutual
def uptoBulk {H : Type} : DataW H → Nat
  | .lit (.string bytes) => bytes.length + 1
  | .lit _ => 1
  | .nil => 1
  | .ptr d => uptoBulk d + 1
  | .slice elems spare => uptoBulkAll elems + uptoBulkAll spare + 1
  | .agg parts => uptoBulkAll parts + 1
  | .iface _ d => uptoBulk d + 1
  | .map entries => uptoBulkEntries entries + 1
  | .held _ => 1
def uptoBulkAll {H : Type} : List (DataW H) → Nat
  | [] => 0
  | d :: r => uptoBulk d + uptoBulkAll r
def uptoBulkEntries {H : Type} : List (Lit × DataW H) → Nat
  | [] => 0
  | x :: r => uptoBulkEntry x + uptoBulkEntries r
def uptoBulkEntry {H : Type} : Lit × DataW H → Nat
  | (.string bytes, d) => bytes.length + uptoBulk d + 1
  | (_, d) => uptoBulk d + 1
 end
def uptoSmall : (H : Type) → List (DataW H) → Bool := fun _ ds => decide (uptoBulkAll ds ≤ 1048576)
def OpenSpec.upto (s : _root_.Go.ChangeSpec) : _root_.Go.OpenSpec := { _root_.Go.OpenSpec.ofChange s with cond := some uptoSmall }

/-- 'laws.FnExactRing', WHERE WHAT IT READS IS OF BULK AT MOST 1048576: true; the input reads as it did. -/
def fnExactRingUptoRow : OpenClaim := { program := "ytkbbgjoohffooaa", sum := "092d8c837b6e835de39f0ed0d0abda6c9fe5ad087cce0631b215129db8ed7fb1", func := "loop.example/g00033/laws.FnExactRing", spec := "fnExactRing", plainKeys := false, apart := false, narrowed := true }
def FnExactRingUptoSaid : Prop := fnExactRingUptoRow.holds Try.pinned (OpenSpec.upto fnExactRingSpec)

/-- 'laws.FnExactRound', WHERE WHAT IT READS IS OF BULK AT MOST 1048576: true; the input reads as it did. -/
def fnExactRoundUptoRow : OpenClaim := { program := "ytkbbgjoohffooaa", sum := "092d8c837b6e835de39f0ed0d0abda6c9fe5ad087cce0631b215129db8ed7fb1", func := "loop.example/g00033/laws.FnExactRound", spec := "fnExactRound", plainKeys := false, apart := false, narrowed := true }
def FnExactRoundUptoSaid : Prop := fnExactRoundUptoRow.holds Try.pinned (OpenSpec.upto fnExactRoundSpec)

/-- 'laws.FnExactTokenText', WHERE WHAT IT READS IS OF BULK AT MOST 1048576: true; the input reads as it did. -/
def fnExactTokenTextUptoRow : OpenClaim := { program := "ytkbbgjoohffooaa", sum := "092d8c837b6e835de39f0ed0d0abda6c9fe5ad087cce0631b215129db8ed7fb1", func := "loop.example/g00033/laws.FnExactTokenText", spec := "fnExactTokenText", plainKeys := false, apart := false, narrowed := true }
def FnExactTokenTextUptoSaid : Prop := fnExactTokenTextUptoRow.holds Try.pinned (OpenSpec.upto fnExactTokenTextSpec)

/-- 'laws.FnExactBookOk', WHERE WHAT IT READS IS OF BULK AT MOST 1048576: true; the input reads as it did. -/
def fnExactBookOkUptoRow : OpenClaim := { program := "ytkbbgjoohffooaa", sum := "092d8c837b6e835de39f0ed0d0abda6c9fe5ad087cce0631b215129db8ed7fb1", func := "loop.example/g00033/laws.FnExactBookOk", spec := "fnExactBookOk", plainKeys := false, apart := false, narrowed := true }
def FnExactBookOkUptoSaid : Prop := fnExactBookOkUptoRow.holds Try.pinned (OpenSpec.upto fnExactBookOkSpec)

/-- 'laws.FnExactMovesOk', WHERE WHAT IT READS IS OF BULK AT MOST 1048576: true; the input reads as it did. -/
def fnExactMovesOkUptoRow : OpenClaim := { program := "ytkbbgjoohffooaa", sum := "092d8c837b6e835de39f0ed0d0abda6c9fe5ad087cce0631b215129db8ed7fb1", func := "loop.example/g00033/laws.FnExactMovesOk", spec := "fnExactMovesOk", plainKeys := false, apart := false, narrowed := true }
def FnExactMovesOkUptoSaid : Prop := fnExactMovesOkUptoRow.holds Try.pinned (OpenSpec.upto fnExactMovesOkSpec)

/-- 'laws.FnExactToFrac', WHERE WHAT IT READS IS OF BULK AT MOST 1048576: true; the input reads as it did. -/
def fnExactToFracUptoRow : OpenClaim := { program := "ytkbbgjoohffooaa", sum := "092d8c837b6e835de39f0ed0d0abda6c9fe5ad087cce0631b215129db8ed7fb1", func := "loop.example/g00033/laws.FnExactToFrac", spec := "fnExactToFrac", unfollowed := true, recurses := true, plainKeys := false, apart := false, narrowed := true }
def FnExactToFracUptoSaid : Prop := fnExactToFracUptoRow.holds Try.pinned (OpenSpec.upto fnExactToFracSpec)

/-- 'laws.FnExactJoint', WHERE WHAT IT READS IS OF BULK AT MOST 1048576: true; the input reads as it did. -/
def fnExactJointUptoRow : OpenClaim := { program := "ytkbbgjoohffooaa", sum := "092d8c837b6e835de39f0ed0d0abda6c9fe5ad087cce0631b215129db8ed7fb1", func := "loop.example/g00033/laws.FnExactJoint", spec := "fnExactJoint", plainKeys := false, apart := false, narrowed := true }
def FnExactJointUptoSaid : Prop := fnExactJointUptoRow.holds Try.pinned (OpenSpec.upto fnExactJointSpec)

/-- 'laws.FnExactCacheOk', WHERE WHAT IT READS IS OF BULK AT MOST 1048576: true; the input reads as it did. -/
def fnExactCacheOkUptoRow : OpenClaim := { program := "ytkbbgjoohffooaa", sum := "092d8c837b6e835de39f0ed0d0abda6c9fe5ad087cce0631b215129db8ed7fb1", func := "loop.example/g00033/laws.FnExactCacheOk", spec := "fnExactCacheOk", plainKeys := false, apart := false, narrowed := true }
def FnExactCacheOkUptoSaid : Prop := fnExactCacheOkUptoRow.holds Try.pinned (OpenSpec.upto fnExactCacheOkSpec)

end Rows
end Go.Proofs.Ytkbbgjoohffooaa
