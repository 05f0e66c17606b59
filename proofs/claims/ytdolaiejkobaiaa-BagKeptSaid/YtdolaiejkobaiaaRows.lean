/-
  No cell of these rows narrows 'for every input' (looked for: loops, veiled, ifaces, maps, wideKeys, modest, calm, conditions, laid).
  DERIVED. THE GIVEN ROWS OF THIS SEAT. 5 by the template 'for every input the law returns true; each argument reads behind the call as it read before'; 0 by the template 'total and deterministic' (their statements: YtdolaiejkobaiaaTotals.lean).
  GIVEN WITH THE SEED: the statements are not yours to turn. If you find one false, say at which input.
  Laid BY PROGRAM, IN A SANDBOX (cutbox-rows.mjs): the forced cells as the released guide's own fill.sh prints them over the translation 687abc637b2c4592… (all of the seat's roots in one cut). By AI agents, Wed Nov 11 2026. No macro, syntax, notation, axiom, sorry.
-/
import Derived.Test.YtdolaiejkobaiaaChecked
import GoSem.Claim
import GoSem.ClaimJoined
import GoSem.ClaimMapViews
import Derived.JoinedTies
import Derived.KernelRfl
namespace Go.Proofs.Ytdolaiejkobaiaa
/- THE CELL 'sum', in the pinned program and in every row, IS THE sha256 OF THE DUMP (.gsa) THAT YtdolaiejkobaiaaProg.lean LOADS. Nothing in Lean hashes anything: it is a label: what it is worth is what the hold of that sum in a sandbox is worth. -/
noncomputable def Try.pinned : Pinned := { name := "ytdolaiejkobaiaa", sum := "687abc637b2c4592268d7b844c3fb0c52e448a38091d6a304bf09ecf7de66df7", checked := Try.checked }
namespace Rows
def none {H : Type} : Left H := { results := [], args := [] }

/-- 'vistalaw04.BagNothing': WHATEVER THE INPUT: true; the input reads as it did. -/
def bagNothingSpec : ChangeSpec := { name := "bagNothing", fn := fun _ => fun
  | [d1, d2] => { results := [.lit (.bool true)], args := [d1, d2] }
  | _ => none }
def bagNothingRow : OpenClaim := { program := "ytdolaiejkobaiaa", sum := "687abc637b2c4592268d7b844c3fb0c52e448a38091d6a304bf09ecf7de66df7", func := "vista/vistalaw04.BagNothing", spec := "bagNothing", apart := false }
def BagNothingSaid : Prop := bagNothingRow.holds Try.pinned (OpenSpec.ofChange bagNothingSpec)

/-- ITS FALSE NEIGHBOUR: 'it returns false'. Refute it at one input. -/
def bagNothingWrong : ChangeSpec := { name := "bagNothing", fn := fun _ => fun
  | [d1, d2] => { results := [.lit (.bool false)], args := [d1, d2] }
  | _ => none }
def BagNothingWrongFalsely : Prop := bagNothingRow.holds Try.pinned (OpenSpec.ofChange bagNothingWrong)

/-- 'vistalaw04.BagOrder': WHATEVER THE INPUT: true; the input reads as it did. -/
def bagOrderSpec : ChangeSpec := { name := "bagOrder", fn := fun _ => fun
  | [d1, d2] => { results := [.lit (.bool true)], args := [d1, d2] }
  | _ => none }
def bagOrderRow : OpenClaim := { program := "ytdolaiejkobaiaa", sum := "687abc637b2c4592268d7b844c3fb0c52e448a38091d6a304bf09ecf7de66df7", func := "vista/vistalaw04.BagOrder", spec := "bagOrder", apart := false }
def BagOrderSaid : Prop := bagOrderRow.holds Try.pinned (OpenSpec.ofChange bagOrderSpec)

/-- ITS FALSE NEIGHBOUR: 'it returns false'. Refute it at one input. -/
def bagOrderWrong : ChangeSpec := { name := "bagOrder", fn := fun _ => fun
  | [d1, d2] => { results := [.lit (.bool false)], args := [d1, d2] }
  | _ => none }
def BagOrderWrongFalsely : Prop := bagOrderRow.holds Try.pinned (OpenSpec.ofChange bagOrderWrong)

/-- 'vistalaw04.BagPlays': WHATEVER THE INPUT: true; the input reads as it did. -/
def bagPlaysSpec : ChangeSpec := { name := "bagPlays", fn := fun _ => fun
  | [d1, d2] => { results := [.lit (.bool true)], args := [d1, d2] }
  | _ => none }
def bagPlaysRow : OpenClaim := { program := "ytdolaiejkobaiaa", sum := "687abc637b2c4592268d7b844c3fb0c52e448a38091d6a304bf09ecf7de66df7", func := "vista/vistalaw04.BagPlays", spec := "bagPlays", apart := false }
def BagPlaysSaid : Prop := bagPlaysRow.holds Try.pinned (OpenSpec.ofChange bagPlaysSpec)

/-- ITS FALSE NEIGHBOUR: 'it returns false'. Refute it at one input. -/
def bagPlaysWrong : ChangeSpec := { name := "bagPlays", fn := fun _ => fun
  | [d1, d2] => { results := [.lit (.bool false)], args := [d1, d2] }
  | _ => none }
def BagPlaysWrongFalsely : Prop := bagPlaysRow.holds Try.pinned (OpenSpec.ofChange bagPlaysWrong)

/-- 'vistalaw04.BagKept': WHATEVER THE INPUT: true; the input reads as it did. -/
def bagKeptSpec : ChangeSpec := { name := "bagKept", fn := fun _ => fun
  | [d1, d2, d3] => { results := [.lit (.bool true)], args := [d1, d2, d3] }
  | _ => none }
def bagKeptRow : OpenClaim := { program := "ytdolaiejkobaiaa", sum := "687abc637b2c4592268d7b844c3fb0c52e448a38091d6a304bf09ecf7de66df7", func := "vista/vistalaw04.BagKept", spec := "bagKept", apart := false }
def BagKeptSaid : Prop := bagKeptRow.holds Try.pinned (OpenSpec.ofChange bagKeptSpec)

/-- ITS FALSE NEIGHBOUR: 'it returns false'. Refute it at one input. -/
def bagKeptWrong : ChangeSpec := { name := "bagKept", fn := fun _ => fun
  | [d1, d2, d3] => { results := [.lit (.bool false)], args := [d1, d2, d3] }
  | _ => none }
def BagKeptWrongFalsely : Prop := bagKeptRow.holds Try.pinned (OpenSpec.ofChange bagKeptWrong)

/-- 'vistalaw04.BagFull': WHATEVER THE INPUT: true; the input reads as it did. -/
def bagFullSpec : ChangeSpec := { name := "bagFull", fn := fun _ => fun
  | [d1, d2] => { results := [.lit (.bool true)], args := [d1, d2] }
  | _ => none }
def bagFullRow : OpenClaim := { program := "ytdolaiejkobaiaa", sum := "687abc637b2c4592268d7b844c3fb0c52e448a38091d6a304bf09ecf7de66df7", func := "vista/vistalaw04.BagFull", spec := "bagFull", apart := false }
def BagFullSaid : Prop := bagFullRow.holds Try.pinned (OpenSpec.ofChange bagFullSpec)

/-- ITS FALSE NEIGHBOUR: 'it returns false'. Refute it at one input. -/
def bagFullWrong : ChangeSpec := { name := "bagFull", fn := fun _ => fun
  | [d1, d2] => { results := [.lit (.bool false)], args := [d1, d2] }
  | _ => none }
def BagFullWrongFalsely : Prop := bagFullRow.holds Try.pinned (OpenSpec.ofChange bagFullWrong)

/- THE SECOND FORM. 'bulk': how many values and letters a reading holds, each counted each time it is reached (what is shared counts as often as it is met; a slice's spare places count too). A statement '..UptoSaid' is the law's where the arguments, and the package variables that the reading takes, are together of bulk at most 1048576: NARROWER than '..Said'. Prove '..Said' where nothing that the law and all that it calls make is longer than what came in: it says more and counts as full. Else prove '..UptoSaid'. A law counts once. -/
mutual
def uptoBulk {H : Type} : DataW H → Nat
  | .lit (.string bytes) => bytes.length + 1
  | .lit _ => 1
  | .nil => 1
  | .ptr d => uptoBulk d + 1
  | .slice elems spare => uptoBulkAll elems + uptoBulkAll spare + 1
  | .agg parts => uptoBulkAll parts + 1
  | .iface _ d => uptoBulk d + 1
  | .map entries => uptoBulkEntries entries + 1
  | .held _ => 1
def uptoBulkAll {H : Type} : List (DataW H) → Nat
  | [] => 0
  | d :: r => uptoBulk d + uptoBulkAll r
def uptoBulkEntries {H : Type} : List (Lit × DataW H) → Nat
  | [] => 0
  | x :: r => uptoBulkEntry x + uptoBulkEntries r
def uptoBulkEntry {H : Type} : Lit × DataW H → Nat
  | (.string bytes, d) => bytes.length + uptoBulk d + 1
  | (_, d) => uptoBulk d + 1
 end
def uptoSmall : (H : Type) → List (DataW H) → Bool := fun _ ds => decide (uptoBulkAll ds ≤ 1048576)
def OpenSpec.upto (s : _root_.Go.ChangeSpec) : _root_.Go.OpenSpec := { _root_.Go.OpenSpec.ofChange s with cond := some uptoSmall }

/-- 'vistalaw04.BagNothing', WHERE WHAT IT READS IS OF BULK AT MOST 1048576: true; the input reads as it did. -/
def bagNothingUptoRow : OpenClaim := { program := "ytdolaiejkobaiaa", sum := "687abc637b2c4592268d7b844c3fb0c52e448a38091d6a304bf09ecf7de66df7", func := "vista/vistalaw04.BagNothing", spec := "bagNothing", apart := false, narrowed := true }
def BagNothingUptoSaid : Prop := bagNothingUptoRow.holds Try.pinned (OpenSpec.upto bagNothingSpec)

/-- 'vistalaw04.BagOrder', WHERE WHAT IT READS IS OF BULK AT MOST 1048576: true; the input reads as it did. -/
def bagOrderUptoRow : OpenClaim := { program := "ytdolaiejkobaiaa", sum := "687abc637b2c4592268d7b844c3fb0c52e448a38091d6a304bf09ecf7de66df7", func := "vista/vistalaw04.BagOrder", spec := "bagOrder", apart := false, narrowed := true }
def BagOrderUptoSaid : Prop := bagOrderUptoRow.holds Try.pinned (OpenSpec.upto bagOrderSpec)

/-- 'vistalaw04.BagPlays', WHERE WHAT IT READS IS OF BULK AT MOST 1048576: true; the input reads as it did. -/
def bagPlaysUptoRow : OpenClaim := { program := "ytdolaiejkobaiaa", sum := "687abc637b2c4592268d7b844c3fb0c52e448a38091d6a304bf09ecf7de66df7", func := "vista/vistalaw04.BagPlays", spec := "bagPlays", apart := false, narrowed := true }
def BagPlaysUptoSaid : Prop := bagPlaysUptoRow.holds Try.pinned (OpenSpec.upto bagPlaysSpec)

/-- 'vistalaw04.BagKept', WHERE WHAT IT READS IS OF BULK AT MOST 1048576: true; the input reads as it did. -/
def bagKeptUptoRow : OpenClaim := { program := "ytdolaiejkobaiaa", sum := "687abc637b2c4592268d7b844c3fb0c52e448a38091d6a304bf09ecf7de66df7", func := "vista/vistalaw04.BagKept", spec := "bagKept", apart := false, narrowed := true }
def BagKeptUptoSaid : Prop := bagKeptUptoRow.holds Try.pinned (OpenSpec.upto bagKeptSpec)

/-- 'vistalaw04.BagFull', WHERE WHAT IT READS IS OF BULK AT MOST 1048576: true; the input reads as it did. -/
def bagFullUptoRow : OpenClaim := { program := "ytdolaiejkobaiaa", sum := "687abc637b2c4592268d7b844c3fb0c52e448a38091d6a304bf09ecf7de66df7", func := "vista/vistalaw04.BagFull", spec := "bagFull", apart := false, narrowed := true }
def BagFullUptoSaid : Prop := bagFullUptoRow.holds Try.pinned (OpenSpec.upto bagFullSpec)

end Rows
end Go.Proofs.Ytdolaiejkobaiaa
