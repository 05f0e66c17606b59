/-
  No cell of these rows narrows 'for every input' (looked for: loops, veiled, ifaces, maps, wideKeys, modest, calm, conditions, laid).
  DERIVED. THE GIVEN ROWS OF THIS SEAT. 8 by the template 'for every input the law returns true; each argument reads behind the call as it read before'; 0 by the template 'total and deterministic' (their statements: YtakkdaenindboaaTotals.lean).
  GIVEN WITH THE SEED: the statements are not yours to turn. If you find one false, say at which input.
  Laid BY PROGRAM, IN A SANDBOX (cutbox-rows.mjs): the forced cells as the released guide's own fill.sh prints them over the translation c5d8622550c87006… (all of the seat's roots in one cut). By AI agents, Wed Nov 11 2026. No macro, syntax, notation, axiom, sorry.
-/
import Derived.Test.YtakkdaenindboaaChecked
import GoSem.Claim
import GoSem.ClaimJoined
import GoSem.ClaimMapViews
import Derived.JoinedTies
import Derived.KernelRfl
namespace Go.Proofs.Ytakkdaenindboaa
/- THE CELL 'sum', in the pinned program and in every row, IS THE sha256 OF THE DUMP (.gsa) THAT YtakkdaenindboaaProg.lean LOADS. Nothing in Lean hashes anything: it is a label: what it is worth is what the hold of that sum in a sandbox is worth. -/
noncomputable def Try.pinned : Pinned := { name := "ytakkdaenindboaa", sum := "c5d8622550c87006e787d0291b29517a5d02d8d7ea6531aa713471911d484906", checked := Try.checked }
namespace Rows
def none {H : Type} : Left H := { results := [], args := [] }

/-- 'vistalaw08.VowTold': WHATEVER THE INPUT: true; the input reads as it did. -/
def vowToldSpec : ChangeSpec := { name := "vowTold", fn := fun _ => fun
  | [d1, d2, d3] => { results := [.lit (.bool true)], args := [d1, d2, d3] }
  | _ => none }
def vowToldRow : OpenClaim := { program := "ytakkdaenindboaa", sum := "c5d8622550c87006e787d0291b29517a5d02d8d7ea6531aa713471911d484906", func := "vista/vistalaw08.VowTold", spec := "vowTold", inPlace := ["math.archTrunc", "math.Float64bits", "math.Float64frombits"], unfollowed := true, recurses := true, apart := false }
def VowToldSaid : Prop := vowToldRow.holds Try.pinned (OpenSpec.ofChange vowToldSpec)

/-- ITS FALSE NEIGHBOUR: 'it returns false'. Refute it at one input. -/
def vowToldWrong : ChangeSpec := { name := "vowTold", fn := fun _ => fun
  | [d1, d2, d3] => { results := [.lit (.bool false)], args := [d1, d2, d3] }
  | _ => none }
def VowToldWrongFalsely : Prop := vowToldRow.holds Try.pinned (OpenSpec.ofChange vowToldWrong)

/-- 'vistalaw08.VowTouches': WHATEVER THE INPUT: true; the input reads as it did. -/
def vowTouchesSpec : ChangeSpec := { name := "vowTouches", fn := fun _ => fun
  | [d1, d2, d3] => { results := [.lit (.bool true)], args := [d1, d2, d3] }
  | _ => none }
def vowTouchesRow : OpenClaim := { program := "ytakkdaenindboaa", sum := "c5d8622550c87006e787d0291b29517a5d02d8d7ea6531aa713471911d484906", func := "vista/vistalaw08.VowTouches", spec := "vowTouches", inPlace := ["math.archTrunc", "math.Float64bits", "math.Float64frombits"], unfollowed := true, recurses := true, apart := false }
def VowTouchesSaid : Prop := vowTouchesRow.holds Try.pinned (OpenSpec.ofChange vowTouchesSpec)

/-- ITS FALSE NEIGHBOUR: 'it returns false'. Refute it at one input. -/
def vowTouchesWrong : ChangeSpec := { name := "vowTouches", fn := fun _ => fun
  | [d1, d2, d3] => { results := [.lit (.bool false)], args := [d1, d2, d3] }
  | _ => none }
def VowTouchesWrongFalsely : Prop := vowTouchesRow.holds Try.pinned (OpenSpec.ofChange vowTouchesWrong)

/-- 'vistalaw08.VowLate': WHATEVER THE INPUT: true; the input reads as it did. -/
def vowLateSpec : ChangeSpec := { name := "vowLate", fn := fun _ => fun
  | [d1, d2, d3, d4] => { results := [.lit (.bool true)], args := [d1, d2, d3, d4] }
  | _ => none }
def vowLateRow : OpenClaim := { program := "ytakkdaenindboaa", sum := "c5d8622550c87006e787d0291b29517a5d02d8d7ea6531aa713471911d484906", func := "vista/vistalaw08.VowLate", spec := "vowLate", inPlace := ["math.archTrunc", "math.Float64bits", "math.Float64frombits"], unfollowed := true, recurses := true, apart := false }
def VowLateSaid : Prop := vowLateRow.holds Try.pinned (OpenSpec.ofChange vowLateSpec)

/-- ITS FALSE NEIGHBOUR: 'it returns false'. Refute it at one input. -/
def vowLateWrong : ChangeSpec := { name := "vowLate", fn := fun _ => fun
  | [d1, d2, d3, d4] => { results := [.lit (.bool false)], args := [d1, d2, d3, d4] }
  | _ => none }
def VowLateWrongFalsely : Prop := vowLateRow.holds Try.pinned (OpenSpec.ofChange vowLateWrong)

/-- 'vistalaw08.VowKept': WHATEVER THE INPUT: true; the input reads as it did. -/
def vowKeptSpec : ChangeSpec := { name := "vowKept", fn := fun _ => fun
  | [d1, d2] => { results := [.lit (.bool true)], args := [d1, d2] }
  | _ => none }
def vowKeptRow : OpenClaim := { program := "ytakkdaenindboaa", sum := "c5d8622550c87006e787d0291b29517a5d02d8d7ea6531aa713471911d484906", func := "vista/vistalaw08.VowKept", spec := "vowKept", inPlace := ["math.archTrunc", "math.Float64bits", "math.Float64frombits"], unfollowed := true, recurses := true, apart := false }
def VowKeptSaid : Prop := vowKeptRow.holds Try.pinned (OpenSpec.ofChange vowKeptSpec)

/-- ITS FALSE NEIGHBOUR: 'it returns false'. Refute it at one input. -/
def vowKeptWrong : ChangeSpec := { name := "vowKept", fn := fun _ => fun
  | [d1, d2] => { results := [.lit (.bool false)], args := [d1, d2] }
  | _ => none }
def VowKeptWrongFalsely : Prop := vowKeptRow.holds Try.pinned (OpenSpec.ofChange vowKeptWrong)

/-- 'vistalaw08.VowAcks': WHATEVER THE INPUT: true; the input reads as it did. -/
def vowAcksSpec : ChangeSpec := { name := "vowAcks", fn := fun _ => fun
  | [d1, d2, d3] => { results := [.lit (.bool true)], args := [d1, d2, d3] }
  | _ => none }
def vowAcksRow : OpenClaim := { program := "ytakkdaenindboaa", sum := "c5d8622550c87006e787d0291b29517a5d02d8d7ea6531aa713471911d484906", func := "vista/vistalaw08.VowAcks", spec := "vowAcks", inPlace := ["math.archTrunc", "math.Float64bits", "math.Float64frombits"], unfollowed := true, recurses := true, apart := false }
def VowAcksSaid : Prop := vowAcksRow.holds Try.pinned (OpenSpec.ofChange vowAcksSpec)

/-- ITS FALSE NEIGHBOUR: 'it returns false'. Refute it at one input. -/
def vowAcksWrong : ChangeSpec := { name := "vowAcks", fn := fun _ => fun
  | [d1, d2, d3] => { results := [.lit (.bool false)], args := [d1, d2, d3] }
  | _ => none }
def VowAcksWrongFalsely : Prop := vowAcksRow.holds Try.pinned (OpenSpec.ofChange vowAcksWrong)

/-- 'vistalaw08.VowPlays': WHATEVER THE INPUT: true; the input reads as it did. -/
def vowPlaysSpec : ChangeSpec := { name := "vowPlays", fn := fun _ => fun
  | [d1, d2, d3, d4] => { results := [.lit (.bool true)], args := [d1, d2, d3, d4] }
  | _ => none }
def vowPlaysRow : OpenClaim := { program := "ytakkdaenindboaa", sum := "c5d8622550c87006e787d0291b29517a5d02d8d7ea6531aa713471911d484906", func := "vista/vistalaw08.VowPlays", spec := "vowPlays", inPlace := ["math.archTrunc", "math.Float64bits", "math.Float64frombits"], unfollowed := true, recurses := true, apart := false }
def VowPlaysSaid : Prop := vowPlaysRow.holds Try.pinned (OpenSpec.ofChange vowPlaysSpec)

/-- ITS FALSE NEIGHBOUR: 'it returns false'. Refute it at one input. -/
def vowPlaysWrong : ChangeSpec := { name := "vowPlays", fn := fun _ => fun
  | [d1, d2, d3, d4] => { results := [.lit (.bool false)], args := [d1, d2, d3, d4] }
  | _ => none }
def VowPlaysWrongFalsely : Prop := vowPlaysRow.holds Try.pinned (OpenSpec.ofChange vowPlaysWrong)

/-- 'vistalaw08.VowBounds': WHATEVER THE INPUT: true; the input reads as it did. -/
def vowBoundsSpec : ChangeSpec := { name := "vowBounds", fn := fun _ => fun
  | [d1, d2, d3] => { results := [.lit (.bool true)], args := [d1, d2, d3] }
  | _ => none }
def vowBoundsRow : OpenClaim := { program := "ytakkdaenindboaa", sum := "c5d8622550c87006e787d0291b29517a5d02d8d7ea6531aa713471911d484906", func := "vista/vistalaw08.VowBounds", spec := "vowBounds", inPlace := ["math.archTrunc", "math.Float64bits", "math.Float64frombits"], unfollowed := true, recurses := true, apart := false }
def VowBoundsSaid : Prop := vowBoundsRow.holds Try.pinned (OpenSpec.ofChange vowBoundsSpec)

/-- ITS FALSE NEIGHBOUR: 'it returns false'. Refute it at one input. -/
def vowBoundsWrong : ChangeSpec := { name := "vowBounds", fn := fun _ => fun
  | [d1, d2, d3] => { results := [.lit (.bool false)], args := [d1, d2, d3] }
  | _ => none }
def VowBoundsWrongFalsely : Prop := vowBoundsRow.holds Try.pinned (OpenSpec.ofChange vowBoundsWrong)

/-- 'vistalaw08.VowFloods': WHATEVER THE INPUT: true; the input reads as it did. -/
def vowFloodsSpec : ChangeSpec := { name := "vowFloods", fn := fun _ => fun
  | [d1, d2] => { results := [.lit (.bool true)], args := [d1, d2] }
  | _ => none }
def vowFloodsRow : OpenClaim := { program := "ytakkdaenindboaa", sum := "c5d8622550c87006e787d0291b29517a5d02d8d7ea6531aa713471911d484906", func := "vista/vistalaw08.VowFloods", spec := "vowFloods", inPlace := ["math.archTrunc", "math.Float64bits", "math.Float64frombits"], unfollowed := true, recurses := true, apart := false }
def VowFloodsSaid : Prop := vowFloodsRow.holds Try.pinned (OpenSpec.ofChange vowFloodsSpec)

/-- ITS FALSE NEIGHBOUR: 'it returns false'. Refute it at one input. -/
def vowFloodsWrong : ChangeSpec := { name := "vowFloods", fn := fun _ => fun
  | [d1, d2] => { results := [.lit (.bool false)], args := [d1, d2] }
  | _ => none }
def VowFloodsWrongFalsely : Prop := vowFloodsRow.holds Try.pinned (OpenSpec.ofChange vowFloodsWrong)

/- THE SECOND FORM. 'bulk': how many values and letters a reading holds, each counted each time it is reached (what is shared counts as often as it is met; a slice's spare places count too). A statement '..UptoSaid' is the law's where the arguments, and the package variables that the reading takes, are together of bulk at most 1048576: NARROWER than '..Said'. Prove '..Said' where nothing that the law and all that it calls make is longer than what came in: it says more and counts as full. Else prove '..UptoSaid'. A law counts once. -/
mutual
def uptoBulk {H : Type} : DataW H → Nat
  | .lit (.string bytes) => bytes.length + 1
  | .lit _ => 1
  | .nil => 1
  | .ptr d => uptoBulk d + 1
  | .slice elems spare => uptoBulkAll elems + uptoBulkAll spare + 1
  | .agg parts => uptoBulkAll parts + 1
  | .iface _ d => uptoBulk d + 1
  | .map entries => uptoBulkEntries entries + 1
  | .held _ => 1
def uptoBulkAll {H : Type} : List (DataW H) → Nat
  | [] => 0
  | d :: r => uptoBulk d + uptoBulkAll r
def uptoBulkEntries {H : Type} : List (Lit × DataW H) → Nat
  | [] => 0
  | x :: r => uptoBulkEntry x + uptoBulkEntries r
def uptoBulkEntry {H : Type} : Lit × DataW H → Nat
  | (.string bytes, d) => bytes.length + uptoBulk d + 1
  | (_, d) => uptoBulk d + 1
 end
def uptoSmall : (H : Type) → List (DataW H) → Bool := fun _ ds => decide (uptoBulkAll ds ≤ 1048576)
def OpenSpec.upto (s : _root_.Go.ChangeSpec) : _root_.Go.OpenSpec := { _root_.Go.OpenSpec.ofChange s with cond := some uptoSmall }

/-- 'vistalaw08.VowTold', WHERE WHAT IT READS IS OF BULK AT MOST 1048576: true; the input reads as it did. -/
def vowToldUptoRow : OpenClaim := { program := "ytakkdaenindboaa", sum := "c5d8622550c87006e787d0291b29517a5d02d8d7ea6531aa713471911d484906", func := "vista/vistalaw08.VowTold", spec := "vowTold", inPlace := ["math.archTrunc", "math.Float64bits", "math.Float64frombits"], unfollowed := true, recurses := true, apart := false, narrowed := true }
def VowToldUptoSaid : Prop := vowToldUptoRow.holds Try.pinned (OpenSpec.upto vowToldSpec)

/-- 'vistalaw08.VowTouches', WHERE WHAT IT READS IS OF BULK AT MOST 1048576: true; the input reads as it did. -/
def vowTouchesUptoRow : OpenClaim := { program := "ytakkdaenindboaa", sum := "c5d8622550c87006e787d0291b29517a5d02d8d7ea6531aa713471911d484906", func := "vista/vistalaw08.VowTouches", spec := "vowTouches", inPlace := ["math.archTrunc", "math.Float64bits", "math.Float64frombits"], unfollowed := true, recurses := true, apart := false, narrowed := true }
def VowTouchesUptoSaid : Prop := vowTouchesUptoRow.holds Try.pinned (OpenSpec.upto vowTouchesSpec)

/-- 'vistalaw08.VowLate', WHERE WHAT IT READS IS OF BULK AT MOST 1048576: true; the input reads as it did. -/
def vowLateUptoRow : OpenClaim := { program := "ytakkdaenindboaa", sum := "c5d8622550c87006e787d0291b29517a5d02d8d7ea6531aa713471911d484906", func := "vista/vistalaw08.VowLate", spec := "vowLate", inPlace := ["math.archTrunc", "math.Float64bits", "math.Float64frombits"], unfollowed := true, recurses := true, apart := false, narrowed := true }
def VowLateUptoSaid : Prop := vowLateUptoRow.holds Try.pinned (OpenSpec.upto vowLateSpec)

/-- 'vistalaw08.VowKept', WHERE WHAT IT READS IS OF BULK AT MOST 1048576: true; the input reads as it did. -/
def vowKeptUptoRow : OpenClaim := { program := "ytakkdaenindboaa", sum := "c5d8622550c87006e787d0291b29517a5d02d8d7ea6531aa713471911d484906", func := "vista/vistalaw08.VowKept", spec := "vowKept", inPlace := ["math.archTrunc", "math.Float64bits", "math.Float64frombits"], unfollowed := true, recurses := true, apart := false, narrowed := true }
def VowKeptUptoSaid : Prop := vowKeptUptoRow.holds Try.pinned (OpenSpec.upto vowKeptSpec)

/-- 'vistalaw08.VowAcks', WHERE WHAT IT READS IS OF BULK AT MOST 1048576: true; the input reads as it did. -/
def vowAcksUptoRow : OpenClaim := { program := "ytakkdaenindboaa", sum := "c5d8622550c87006e787d0291b29517a5d02d8d7ea6531aa713471911d484906", func := "vista/vistalaw08.VowAcks", spec := "vowAcks", inPlace := ["math.archTrunc", "math.Float64bits", "math.Float64frombits"], unfollowed := true, recurses := true, apart := false, narrowed := true }
def VowAcksUptoSaid : Prop := vowAcksUptoRow.holds Try.pinned (OpenSpec.upto vowAcksSpec)

/-- 'vistalaw08.VowPlays', WHERE WHAT IT READS IS OF BULK AT MOST 1048576: true; the input reads as it did. -/
def vowPlaysUptoRow : OpenClaim := { program := "ytakkdaenindboaa", sum := "c5d8622550c87006e787d0291b29517a5d02d8d7ea6531aa713471911d484906", func := "vista/vistalaw08.VowPlays", spec := "vowPlays", inPlace := ["math.archTrunc", "math.Float64bits", "math.Float64frombits"], unfollowed := true, recurses := true, apart := false, narrowed := true }
def VowPlaysUptoSaid : Prop := vowPlaysUptoRow.holds Try.pinned (OpenSpec.upto vowPlaysSpec)

/-- 'vistalaw08.VowBounds', WHERE WHAT IT READS IS OF BULK AT MOST 1048576: true; the input reads as it did. -/
def vowBoundsUptoRow : OpenClaim := { program := "ytakkdaenindboaa", sum := "c5d8622550c87006e787d0291b29517a5d02d8d7ea6531aa713471911d484906", func := "vista/vistalaw08.VowBounds", spec := "vowBounds", inPlace := ["math.archTrunc", "math.Float64bits", "math.Float64frombits"], unfollowed := true, recurses := true, apart := false, narrowed := true }
def VowBoundsUptoSaid : Prop := vowBoundsUptoRow.holds Try.pinned (OpenSpec.upto vowBoundsSpec)

/-- 'vistalaw08.VowFloods', WHERE WHAT IT READS IS OF BULK AT MOST 1048576: true; the input reads as it did. -/
def vowFloodsUptoRow : OpenClaim := { program := "ytakkdaenindboaa", sum := "c5d8622550c87006e787d0291b29517a5d02d8d7ea6531aa713471911d484906", func := "vista/vistalaw08.VowFloods", spec := "vowFloods", inPlace := ["math.archTrunc", "math.Float64bits", "math.Float64frombits"], unfollowed := true, recurses := true, apart := false, narrowed := true }
def VowFloodsUptoSaid : Prop := vowFloodsUptoRow.holds Try.pinned (OpenSpec.upto vowFloodsSpec)

end Rows
end Go.Proofs.Ytakkdaenindboaa
