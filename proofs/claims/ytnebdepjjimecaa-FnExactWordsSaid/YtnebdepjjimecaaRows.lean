/-
  No cell of these rows narrows 'for every input' (looked for: loops, veiled, ifaces, maps, wideKeys, modest, calm, conditions, laid).
  DERIVED. THE GIVEN ROWS OF THIS SEAT. 11 by the template 'for every input the law returns true; each argument reads behind the call as it read before'; 0 by the template 'total and deterministic' (their statements: YtnebdepjjimecaaTotals.lean).
  GIVEN WITH THE SEED: the statements are not yours to turn. If you find one false, say at which input.
  Laid BY PROGRAM, IN A SANDBOX (cutbox-rows.mjs): the forced cells as the released guide's own fill.sh prints them over the translation e8c41db7c1d84fcb… (all of the seat's roots in one cut). By AI agents, Wed Nov 11 2026. No macro, syntax, notation, axiom, sorry.
-/
import Derived.Test.YtnebdepjjimecaaChecked
import GoSem.Claim
import GoSem.ClaimJoined
import GoSem.ClaimMapViews
import Derived.JoinedTies
import Derived.KernelRfl
namespace Go.Proofs.Ytnebdepjjimecaa
/- THE CELL 'sum', in the pinned program and in every row, IS THE sha256 OF THE DUMP (.gsa) THAT YtnebdepjjimecaaProg.lean LOADS. Nothing in Lean hashes anything: it is a label: what it is worth is what the hold of that sum in a sandbox is worth. -/
noncomputable def Try.pinned : Pinned := { name := "ytnebdepjjimecaa", sum := "e8c41db7c1d84fcb57d7bb070dc76ee2ee9a10c24a897a351363c6663f335cf0", checked := Try.checked }
namespace Rows
def none {H : Type} : Left H := { results := [], args := [] }

/-- 'laws.FnExactRing': WHATEVER THE INPUT: true; the input reads as it did. -/
def fnExactRingSpec : ChangeSpec := { name := "fnExactRing", fn := fun _ => fun
  | [d] => { results := [.lit (.bool true)], args := [d] }
  | _ => none }
def fnExactRingRow : OpenClaim := { program := "ytnebdepjjimecaa", sum := "e8c41db7c1d84fcb57d7bb070dc76ee2ee9a10c24a897a351363c6663f335cf0", func := "loop.example/g00033/laws.FnExactRing", spec := "fnExactRing", plainKeys := false, apart := false }
def FnExactRingSaid : Prop := fnExactRingRow.holds Try.pinned (OpenSpec.ofChange fnExactRingSpec)

/-- ITS FALSE NEIGHBOUR: 'it returns false'. Refute it at one input. -/
def fnExactRingWrong : ChangeSpec := { name := "fnExactRing", fn := fun _ => fun
  | [d] => { results := [.lit (.bool false)], args := [d] }
  | _ => none }
def FnExactRingWrongFalsely : Prop := fnExactRingRow.holds Try.pinned (OpenSpec.ofChange fnExactRingWrong)

/-- 'laws.FnExactRound': WHATEVER THE INPUT: true; the input reads as it did. -/
def fnExactRoundSpec : ChangeSpec := { name := "fnExactRound", fn := fun _ => fun
  | [d] => { results := [.lit (.bool true)], args := [d] }
  | _ => none }
def fnExactRoundRow : OpenClaim := { program := "ytnebdepjjimecaa", sum := "e8c41db7c1d84fcb57d7bb070dc76ee2ee9a10c24a897a351363c6663f335cf0", func := "loop.example/g00033/laws.FnExactRound", spec := "fnExactRound", plainKeys := false, apart := false }
def FnExactRoundSaid : Prop := fnExactRoundRow.holds Try.pinned (OpenSpec.ofChange fnExactRoundSpec)

/-- ITS FALSE NEIGHBOUR: 'it returns false'. Refute it at one input. -/
def fnExactRoundWrong : ChangeSpec := { name := "fnExactRound", fn := fun _ => fun
  | [d] => { results := [.lit (.bool false)], args := [d] }
  | _ => none }
def FnExactRoundWrongFalsely : Prop := fnExactRoundRow.holds Try.pinned (OpenSpec.ofChange fnExactRoundWrong)

/-- 'laws.FnExactWords': WHATEVER THE INPUT: true; the input reads as it did. -/
def fnExactWordsSpec : ChangeSpec := { name := "fnExactWords", fn := fun _ => fun
  | [d] => { results := [.lit (.bool true)], args := [d] }
  | _ => none }
def fnExactWordsRow : OpenClaim := { program := "ytnebdepjjimecaa", sum := "e8c41db7c1d84fcb57d7bb070dc76ee2ee9a10c24a897a351363c6663f335cf0", func := "loop.example/g00033/laws.FnExactWords", spec := "fnExactWords", plainKeys := false, apart := false }
def FnExactWordsSaid : Prop := fnExactWordsRow.holds Try.pinned (OpenSpec.ofChange fnExactWordsSpec)

/-- ITS FALSE NEIGHBOUR: 'it returns false'. Refute it at one input. -/
def fnExactWordsWrong : ChangeSpec := { name := "fnExactWords", fn := fun _ => fun
  | [d] => { results := [.lit (.bool false)], args := [d] }
  | _ => none }
def FnExactWordsWrongFalsely : Prop := fnExactWordsRow.holds Try.pinned (OpenSpec.ofChange fnExactWordsWrong)

/-- 'laws.FnExactTokenText': WHATEVER THE INPUT: true; the input reads as it did. -/
def fnExactTokenTextSpec : ChangeSpec := { name := "fnExactTokenText", fn := fun _ => fun
  | [d1, d2] => { results := [.lit (.bool true)], args := [d1, d2] }
  | _ => none }
def fnExactTokenTextRow : OpenClaim := { program := "ytnebdepjjimecaa", sum := "e8c41db7c1d84fcb57d7bb070dc76ee2ee9a10c24a897a351363c6663f335cf0", func := "loop.example/g00033/laws.FnExactTokenText", spec := "fnExactTokenText", plainKeys := false, apart := false }
def FnExactTokenTextSaid : Prop := fnExactTokenTextRow.holds Try.pinned (OpenSpec.ofChange fnExactTokenTextSpec)

/-- ITS FALSE NEIGHBOUR: 'it returns false'. Refute it at one input. -/
def fnExactTokenTextWrong : ChangeSpec := { name := "fnExactTokenText", fn := fun _ => fun
  | [d1, d2] => { results := [.lit (.bool false)], args := [d1, d2] }
  | _ => none }
def FnExactTokenTextWrongFalsely : Prop := fnExactTokenTextRow.holds Try.pinned (OpenSpec.ofChange fnExactTokenTextWrong)

/-- 'laws.FnExactBookOk': WHATEVER THE INPUT: true; the input reads as it did. -/
def fnExactBookOkSpec : ChangeSpec := { name := "fnExactBookOk", fn := fun _ => fun
  | [d] => { results := [.lit (.bool true)], args := [d] }
  | _ => none }
def fnExactBookOkRow : OpenClaim := { program := "ytnebdepjjimecaa", sum := "e8c41db7c1d84fcb57d7bb070dc76ee2ee9a10c24a897a351363c6663f335cf0", func := "loop.example/g00033/laws.FnExactBookOk", spec := "fnExactBookOk", plainKeys := false, apart := false }
def FnExactBookOkSaid : Prop := fnExactBookOkRow.holds Try.pinned (OpenSpec.ofChange fnExactBookOkSpec)

/-- ITS FALSE NEIGHBOUR: 'it returns false'. Refute it at one input. -/
def fnExactBookOkWrong : ChangeSpec := { name := "fnExactBookOk", fn := fun _ => fun
  | [d] => { results := [.lit (.bool false)], args := [d] }
  | _ => none }
def FnExactBookOkWrongFalsely : Prop := fnExactBookOkRow.holds Try.pinned (OpenSpec.ofChange fnExactBookOkWrong)

/-- 'laws.FnExactMovesOk': WHATEVER THE INPUT: true; the input reads as it did. -/
def fnExactMovesOkSpec : ChangeSpec := { name := "fnExactMovesOk", fn := fun _ => fun
  | [d1, d2, d3] => { results := [.lit (.bool true)], args := [d1, d2, d3] }
  | _ => none }
def fnExactMovesOkRow : OpenClaim := { program := "ytnebdepjjimecaa", sum := "e8c41db7c1d84fcb57d7bb070dc76ee2ee9a10c24a897a351363c6663f335cf0", func := "loop.example/g00033/laws.FnExactMovesOk", spec := "fnExactMovesOk", plainKeys := false, apart := false }
def FnExactMovesOkSaid : Prop := fnExactMovesOkRow.holds Try.pinned (OpenSpec.ofChange fnExactMovesOkSpec)

/-- ITS FALSE NEIGHBOUR: 'it returns false'. Refute it at one input. -/
def fnExactMovesOkWrong : ChangeSpec := { name := "fnExactMovesOk", fn := fun _ => fun
  | [d1, d2, d3] => { results := [.lit (.bool false)], args := [d1, d2, d3] }
  | _ => none }
def FnExactMovesOkWrongFalsely : Prop := fnExactMovesOkRow.holds Try.pinned (OpenSpec.ofChange fnExactMovesOkWrong)

/-- 'laws.FnExactShuffle': WHATEVER THE INPUT: true; the input reads as it did. -/
def fnExactShuffleSpec : ChangeSpec := { name := "fnExactShuffle", fn := fun _ => fun
  | [d1, d2] => { results := [.lit (.bool true)], args := [d1, d2] }
  | _ => none }
def fnExactShuffleRow : OpenClaim := { program := "ytnebdepjjimecaa", sum := "e8c41db7c1d84fcb57d7bb070dc76ee2ee9a10c24a897a351363c6663f335cf0", func := "loop.example/g00033/laws.FnExactShuffle", spec := "fnExactShuffle", plainKeys := false, apart := false }
def FnExactShuffleSaid : Prop := fnExactShuffleRow.holds Try.pinned (OpenSpec.ofChange fnExactShuffleSpec)

/-- ITS FALSE NEIGHBOUR: 'it returns false'. Refute it at one input. -/
def fnExactShuffleWrong : ChangeSpec := { name := "fnExactShuffle", fn := fun _ => fun
  | [d1, d2] => { results := [.lit (.bool false)], args := [d1, d2] }
  | _ => none }
def FnExactShuffleWrongFalsely : Prop := fnExactShuffleRow.holds Try.pinned (OpenSpec.ofChange fnExactShuffleWrong)

/-- 'laws.FnExactToFrac': WHATEVER THE INPUT: true; the input reads as it did. -/
def fnExactToFracSpec : ChangeSpec := { name := "fnExactToFrac", fn := fun _ => fun
  | [d] => { results := [.lit (.bool true)], args := [d] }
  | _ => none }
def fnExactToFracRow : OpenClaim := { program := "ytnebdepjjimecaa", sum := "e8c41db7c1d84fcb57d7bb070dc76ee2ee9a10c24a897a351363c6663f335cf0", func := "loop.example/g00033/laws.FnExactToFrac", spec := "fnExactToFrac", unfollowed := true, recurses := true, plainKeys := false, apart := false }
def FnExactToFracSaid : Prop := fnExactToFracRow.holds Try.pinned (OpenSpec.ofChange fnExactToFracSpec)

/-- ITS FALSE NEIGHBOUR: 'it returns false'. Refute it at one input. -/
def fnExactToFracWrong : ChangeSpec := { name := "fnExactToFrac", fn := fun _ => fun
  | [d] => { results := [.lit (.bool false)], args := [d] }
  | _ => none }
def FnExactToFracWrongFalsely : Prop := fnExactToFracRow.holds Try.pinned (OpenSpec.ofChange fnExactToFracWrong)

/-- 'laws.FnNear': WHATEVER THE INPUT: true; the input reads as it did. -/
def fnNearSpec : ChangeSpec := { name := "fnNear", fn := fun _ => fun
  | [d] => { results := [.lit (.bool true)], args := [d] }
  | _ => none }
def fnNearRow : OpenClaim := { program := "ytnebdepjjimecaa", sum := "e8c41db7c1d84fcb57d7bb070dc76ee2ee9a10c24a897a351363c6663f335cf0", func := "loop.example/g00033/laws.FnNear", spec := "fnNear", plainKeys := false, apart := false }
def FnNearSaid : Prop := fnNearRow.holds Try.pinned (OpenSpec.ofChange fnNearSpec)

/-- ITS FALSE NEIGHBOUR: 'it returns false'. Refute it at one input. -/
def fnNearWrong : ChangeSpec := { name := "fnNear", fn := fun _ => fun
  | [d] => { results := [.lit (.bool false)], args := [d] }
  | _ => none }
def FnNearWrongFalsely : Prop := fnNearRow.holds Try.pinned (OpenSpec.ofChange fnNearWrong)

/-- 'laws.FnRates': WHATEVER THE INPUT: true; the input reads as it did. -/
def fnRatesSpec : ChangeSpec := { name := "fnRates", fn := fun _ => fun
  | [d] => { results := [.lit (.bool true)], args := [d] }
  | _ => none }
def fnRatesRow : OpenClaim := { program := "ytnebdepjjimecaa", sum := "e8c41db7c1d84fcb57d7bb070dc76ee2ee9a10c24a897a351363c6663f335cf0", func := "loop.example/g00033/laws.FnRates", spec := "fnRates", plainKeys := false, apart := false }
def FnRatesSaid : Prop := fnRatesRow.holds Try.pinned (OpenSpec.ofChange fnRatesSpec)

/-- ITS FALSE NEIGHBOUR: 'it returns false'. Refute it at one input. -/
def fnRatesWrong : ChangeSpec := { name := "fnRates", fn := fun _ => fun
  | [d] => { results := [.lit (.bool false)], args := [d] }
  | _ => none }
def FnRatesWrongFalsely : Prop := fnRatesRow.holds Try.pinned (OpenSpec.ofChange fnRatesWrong)

/-- 'laws.FnShuffled': WHATEVER THE INPUT: true; the input reads as it did. -/
def fnShuffledSpec : ChangeSpec := { name := "fnShuffled", fn := fun _ => fun
  | [d] => { results := [.lit (.bool true)], args := [d] }
  | _ => none }
def fnShuffledRow : OpenClaim := { program := "ytnebdepjjimecaa", sum := "e8c41db7c1d84fcb57d7bb070dc76ee2ee9a10c24a897a351363c6663f335cf0", func := "loop.example/g00033/laws.FnShuffled", spec := "fnShuffled", plainKeys := false, apart := false }
def FnShuffledSaid : Prop := fnShuffledRow.holds Try.pinned (OpenSpec.ofChange fnShuffledSpec)

/-- ITS FALSE NEIGHBOUR: 'it returns false'. Refute it at one input. -/
def fnShuffledWrong : ChangeSpec := { name := "fnShuffled", fn := fun _ => fun
  | [d] => { results := [.lit (.bool false)], args := [d] }
  | _ => none }
def FnShuffledWrongFalsely : Prop := fnShuffledRow.holds Try.pinned (OpenSpec.ofChange fnShuffledWrong)

/- THE SECOND FORM. 'bulk': how many values and letters a reading holds, each counted each time it is reached (what is shared counts as often as it is met; a slice's spare places count too). A statement '..UptoSaid' is the law's where the arguments, and the package variables that the reading takes, are together of bulk at most 1048576: NARROWER than '..Said'. Prove '..Said' where nothing that the law and all that it calls make is longer than what came in: it says more and counts as full. Else prove '..UptoSaid'. A law counts once. -/
mutual
def uptoBulk {H : Type} : DataW H → Nat
  | .lit (.string bytes) => bytes.length + 1
  | .lit _ => 1
  | .nil => 1
  | .ptr d => uptoBulk d + 1
  | .slice elems spare => uptoBulkAll elems + uptoBulkAll spare + 1
  | .agg parts => uptoBulkAll parts + 1
  | .iface _ d => uptoBulk d + 1
  | .map entries => uptoBulkEntries entries + 1
  | .held _ => 1
def uptoBulkAll {H : Type} : List (DataW H) → Nat
  | [] => 0
  | d :: r => uptoBulk d + uptoBulkAll r
def uptoBulkEntries {H : Type} : List (Lit × DataW H) → Nat
  | [] => 0
  | x :: r => uptoBulkEntry x + uptoBulkEntries r
def uptoBulkEntry {H : Type} : Lit × DataW H → Nat
  | (.string bytes, d) => bytes.length + uptoBulk d + 1
  | (_, d) => uptoBulk d + 1
 end
def uptoSmall : (H : Type) → List (DataW H) → Bool := fun _ ds => decide (uptoBulkAll ds ≤ 1048576)
def OpenSpec.upto (s : _root_.Go.ChangeSpec) : _root_.Go.OpenSpec := { _root_.Go.OpenSpec.ofChange s with cond := some uptoSmall }

/-- 'laws.FnExactRing', WHERE WHAT IT READS IS OF BULK AT MOST 1048576: true; the input reads as it did. -/
def fnExactRingUptoRow : OpenClaim := { program := "ytnebdepjjimecaa", sum := "e8c41db7c1d84fcb57d7bb070dc76ee2ee9a10c24a897a351363c6663f335cf0", func := "loop.example/g00033/laws.FnExactRing", spec := "fnExactRing", plainKeys := false, apart := false, narrowed := true }
def FnExactRingUptoSaid : Prop := fnExactRingUptoRow.holds Try.pinned (OpenSpec.upto fnExactRingSpec)

/-- 'laws.FnExactRound', WHERE WHAT IT READS IS OF BULK AT MOST 1048576: true; the input reads as it did. -/
def fnExactRoundUptoRow : OpenClaim := { program := "ytnebdepjjimecaa", sum := "e8c41db7c1d84fcb57d7bb070dc76ee2ee9a10c24a897a351363c6663f335cf0", func := "loop.example/g00033/laws.FnExactRound", spec := "fnExactRound", plainKeys := false, apart := false, narrowed := true }
def FnExactRoundUptoSaid : Prop := fnExactRoundUptoRow.holds Try.pinned (OpenSpec.upto fnExactRoundSpec)

/-- 'laws.FnExactWords', WHERE WHAT IT READS IS OF BULK AT MOST 1048576: true; the input reads as it did. -/
def fnExactWordsUptoRow : OpenClaim := { program := "ytnebdepjjimecaa", sum := "e8c41db7c1d84fcb57d7bb070dc76ee2ee9a10c24a897a351363c6663f335cf0", func := "loop.example/g00033/laws.FnExactWords", spec := "fnExactWords", plainKeys := false, apart := false, narrowed := true }
def FnExactWordsUptoSaid : Prop := fnExactWordsUptoRow.holds Try.pinned (OpenSpec.upto fnExactWordsSpec)

/-- 'laws.FnExactTokenText', WHERE WHAT IT READS IS OF BULK AT MOST 1048576: true; the input reads as it did. -/
def fnExactTokenTextUptoRow : OpenClaim := { program := "ytnebdepjjimecaa", sum := "e8c41db7c1d84fcb57d7bb070dc76ee2ee9a10c24a897a351363c6663f335cf0", func := "loop.example/g00033/laws.FnExactTokenText", spec := "fnExactTokenText", plainKeys := false, apart := false, narrowed := true }
def FnExactTokenTextUptoSaid : Prop := fnExactTokenTextUptoRow.holds Try.pinned (OpenSpec.upto fnExactTokenTextSpec)

/-- 'laws.FnExactBookOk', WHERE WHAT IT READS IS OF BULK AT MOST 1048576: true; the input reads as it did. -/
def fnExactBookOkUptoRow : OpenClaim := { program := "ytnebdepjjimecaa", sum := "e8c41db7c1d84fcb57d7bb070dc76ee2ee9a10c24a897a351363c6663f335cf0", func := "loop.example/g00033/laws.FnExactBookOk", spec := "fnExactBookOk", plainKeys := false, apart := false, narrowed := true }
def FnExactBookOkUptoSaid : Prop := fnExactBookOkUptoRow.holds Try.pinned (OpenSpec.upto fnExactBookOkSpec)

/-- 'laws.FnExactMovesOk', WHERE WHAT IT READS IS OF BULK AT MOST 1048576: true; the input reads as it did. -/
def fnExactMovesOkUptoRow : OpenClaim := { program := "ytnebdepjjimecaa", sum := "e8c41db7c1d84fcb57d7bb070dc76ee2ee9a10c24a897a351363c6663f335cf0", func := "loop.example/g00033/laws.FnExactMovesOk", spec := "fnExactMovesOk", plainKeys := false, apart := false, narrowed := true }
def FnExactMovesOkUptoSaid : Prop := fnExactMovesOkUptoRow.holds Try.pinned (OpenSpec.upto fnExactMovesOkSpec)

/-- 'laws.FnExactShuffle', WHERE WHAT IT READS IS OF BULK AT MOST 1048576: true; the input reads as it did. -/
def fnExactShuffleUptoRow : OpenClaim := { program := "ytnebdepjjimecaa", sum := "e8c41db7c1d84fcb57d7bb070dc76ee2ee9a10c24a897a351363c6663f335cf0", func := "loop.example/g00033/laws.FnExactShuffle", spec := "fnExactShuffle", plainKeys := false, apart := false, narrowed := true }
def FnExactShuffleUptoSaid : Prop := fnExactShuffleUptoRow.holds Try.pinned (OpenSpec.upto fnExactShuffleSpec)

/-- 'laws.FnExactToFrac', WHERE WHAT IT READS IS OF BULK AT MOST 1048576: true; the input reads as it did. -/
def fnExactToFracUptoRow : OpenClaim := { program := "ytnebdepjjimecaa", sum := "e8c41db7c1d84fcb57d7bb070dc76ee2ee9a10c24a897a351363c6663f335cf0", func := "loop.example/g00033/laws.FnExactToFrac", spec := "fnExactToFrac", unfollowed := true, recurses := true, plainKeys := false, apart := false, narrowed := true }
def FnExactToFracUptoSaid : Prop := fnExactToFracUptoRow.holds Try.pinned (OpenSpec.upto fnExactToFracSpec)

/-- 'laws.FnNear', WHERE WHAT IT READS IS OF BULK AT MOST 1048576: true; the input reads as it did. -/
def fnNearUptoRow : OpenClaim := { program := "ytnebdepjjimecaa", sum := "e8c41db7c1d84fcb57d7bb070dc76ee2ee9a10c24a897a351363c6663f335cf0", func := "loop.example/g00033/laws.FnNear", spec := "fnNear", plainKeys := false, apart := false, narrowed := true }
def FnNearUptoSaid : Prop := fnNearUptoRow.holds Try.pinned (OpenSpec.upto fnNearSpec)

/-- 'laws.FnRates', WHERE WHAT IT READS IS OF BULK AT MOST 1048576: true; the input reads as it did. -/
def fnRatesUptoRow : OpenClaim := { program := "ytnebdepjjimecaa", sum := "e8c41db7c1d84fcb57d7bb070dc76ee2ee9a10c24a897a351363c6663f335cf0", func := "loop.example/g00033/laws.FnRates", spec := "fnRates", plainKeys := false, apart := false, narrowed := true }
def FnRatesUptoSaid : Prop := fnRatesUptoRow.holds Try.pinned (OpenSpec.upto fnRatesSpec)

/-- 'laws.FnShuffled', WHERE WHAT IT READS IS OF BULK AT MOST 1048576: true; the input reads as it did. -/
def fnShuffledUptoRow : OpenClaim := { program := "ytnebdepjjimecaa", sum := "e8c41db7c1d84fcb57d7bb070dc76ee2ee9a10c24a897a351363c6663f335cf0", func := "loop.example/g00033/laws.FnShuffled", spec := "fnShuffled", plainKeys := false, apart := false, narrowed := true }
def FnShuffledUptoSaid : Prop := fnShuffledUptoRow.holds Try.pinned (OpenSpec.upto fnShuffledSpec)

end Rows
end Go.Proofs.Ytnebdepjjimecaa
