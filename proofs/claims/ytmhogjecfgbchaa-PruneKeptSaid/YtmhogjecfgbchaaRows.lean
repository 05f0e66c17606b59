/-
  No cell of these rows narrows 'for every input' (looked for: loops, veiled, ifaces, maps, wideKeys, modest, calm, conditions, laid).
  DERIVED. THE GIVEN ROWS OF THIS SEAT. 16 by the template 'for every input the law returns true; each argument reads behind the call as it read before'; 0 by the template 'total and deterministic' (their statements: YtmhogjecfgbchaaTotals.lean).
  GIVEN WITH THE SEED: the statements are not yours to turn. If you find one false, say at which input.
  Laid BY PROGRAM, IN A SANDBOX (cutbox-rows.mjs): the forced cells as the released guide's own fill.sh prints them over the translation 4c0bc3fee25307f8… (all of the seat's roots in one cut). By AI agents, Wed Nov 11 2026. No macro, syntax, notation, axiom, sorry.
-/
import Derived.Test.YtmhogjecfgbchaaChecked
import GoSem.Claim
import GoSem.ClaimJoined
import GoSem.ClaimMapViews
import Derived.JoinedTies
import Derived.KernelRfl
namespace Go.Proofs.Ytmhogjecfgbchaa
/- THE CELL 'sum', in the pinned program and in every row, IS THE sha256 OF THE DUMP (.gsa) THAT YtmhogjecfgbchaaProg.lean LOADS. Nothing in Lean hashes anything: it is a label: what it is worth is what the hold of that sum in a sandbox is worth. -/
noncomputable def Try.pinned : Pinned := { name := "ytmhogjecfgbchaa", sum := "4c0bc3fee25307f8022505707f76c5d3011bcf6115143566d8f05b336f9e75d9", checked := Try.checked }
namespace Rows
def none {H : Type} : Left H := { results := [], args := [] }

/-- 'vistalaw12.DentWhole': WHATEVER THE INPUT: true; the input reads as it did. -/
def dentWholeSpec : ChangeSpec := { name := "dentWhole", fn := fun _ => fun
  | [d1, d2] => { results := [.lit (.bool true)], args := [d1, d2] }
  | _ => none }
def dentWholeRow : OpenClaim := { program := "ytmhogjecfgbchaa", sum := "4c0bc3fee25307f8022505707f76c5d3011bcf6115143566d8f05b336f9e75d9", func := "vista/vistalaw12.DentWhole", spec := "dentWhole", plainKeys := false, apart := false }
def DentWholeSaid : Prop := dentWholeRow.holds Try.pinned (OpenSpec.ofChange dentWholeSpec)

/-- ITS FALSE NEIGHBOUR: 'it returns false'. Refute it at one input. -/
def dentWholeWrong : ChangeSpec := { name := "dentWhole", fn := fun _ => fun
  | [d1, d2] => { results := [.lit (.bool false)], args := [d1, d2] }
  | _ => none }
def DentWholeWrongFalsely : Prop := dentWholeRow.holds Try.pinned (OpenSpec.ofChange dentWholeWrong)

/-- 'vistalaw12.DentUses': WHATEVER THE INPUT: true; the input reads as it did. -/
def dentUsesSpec : ChangeSpec := { name := "dentUses", fn := fun _ => fun
  | [d1, d2, d3] => { results := [.lit (.bool true)], args := [d1, d2, d3] }
  | _ => none }
def dentUsesRow : OpenClaim := { program := "ytmhogjecfgbchaa", sum := "4c0bc3fee25307f8022505707f76c5d3011bcf6115143566d8f05b336f9e75d9", func := "vista/vistalaw12.DentUses", spec := "dentUses", unfollowed := true, recurses := true, plainKeys := false, apart := false }
def DentUsesSaid : Prop := dentUsesRow.holds Try.pinned (OpenSpec.ofChange dentUsesSpec)

/-- ITS FALSE NEIGHBOUR: 'it returns false'. Refute it at one input. -/
def dentUsesWrong : ChangeSpec := { name := "dentUses", fn := fun _ => fun
  | [d1, d2, d3] => { results := [.lit (.bool false)], args := [d1, d2, d3] }
  | _ => none }
def DentUsesWrongFalsely : Prop := dentUsesRow.holds Try.pinned (OpenSpec.ofChange dentUsesWrong)

/-- 'vistalaw12.DentCuts': WHATEVER THE INPUT: true; the input reads as it did. -/
def dentCutsSpec : ChangeSpec := { name := "dentCuts", fn := fun _ => fun
  | [d1, d2] => { results := [.lit (.bool true)], args := [d1, d2] }
  | _ => none }
def dentCutsRow : OpenClaim := { program := "ytmhogjecfgbchaa", sum := "4c0bc3fee25307f8022505707f76c5d3011bcf6115143566d8f05b336f9e75d9", func := "vista/vistalaw12.DentCuts", spec := "dentCuts", unfollowed := true, recurses := true, plainKeys := false, apart := false }
def DentCutsSaid : Prop := dentCutsRow.holds Try.pinned (OpenSpec.ofChange dentCutsSpec)

/-- ITS FALSE NEIGHBOUR: 'it returns false'. Refute it at one input. -/
def dentCutsWrong : ChangeSpec := { name := "dentCuts", fn := fun _ => fun
  | [d1, d2] => { results := [.lit (.bool false)], args := [d1, d2] }
  | _ => none }
def DentCutsWrongFalsely : Prop := dentCutsRow.holds Try.pinned (OpenSpec.ofChange dentCutsWrong)

/-- 'vistalaw12.DentEvicts': WHATEVER THE INPUT: true; the input reads as it did. -/
def dentEvictsSpec : ChangeSpec := { name := "dentEvicts", fn := fun _ => fun
  | [d1, d2] => { results := [.lit (.bool true)], args := [d1, d2] }
  | _ => none }
def dentEvictsRow : OpenClaim := { program := "ytmhogjecfgbchaa", sum := "4c0bc3fee25307f8022505707f76c5d3011bcf6115143566d8f05b336f9e75d9", func := "vista/vistalaw12.DentEvicts", spec := "dentEvicts", unfollowed := true, recurses := true, plainKeys := false, apart := false }
def DentEvictsSaid : Prop := dentEvictsRow.holds Try.pinned (OpenSpec.ofChange dentEvictsSpec)

/-- ITS FALSE NEIGHBOUR: 'it returns false'. Refute it at one input. -/
def dentEvictsWrong : ChangeSpec := { name := "dentEvicts", fn := fun _ => fun
  | [d1, d2] => { results := [.lit (.bool false)], args := [d1, d2] }
  | _ => none }
def DentEvictsWrongFalsely : Prop := dentEvictsRow.holds Try.pinned (OpenSpec.ofChange dentEvictsWrong)

/-- 'vistalaw12.DentLeaves': WHATEVER THE INPUT: true; the input reads as it did. -/
def dentLeavesSpec : ChangeSpec := { name := "dentLeaves", fn := fun _ => fun
  | [d] => { results := [.lit (.bool true)], args := [d] }
  | _ => none }
def dentLeavesRow : OpenClaim := { program := "ytmhogjecfgbchaa", sum := "4c0bc3fee25307f8022505707f76c5d3011bcf6115143566d8f05b336f9e75d9", func := "vista/vistalaw12.DentLeaves", spec := "dentLeaves", unfollowed := true, recurses := true, plainKeys := false, apart := false }
def DentLeavesSaid : Prop := dentLeavesRow.holds Try.pinned (OpenSpec.ofChange dentLeavesSpec)

/-- ITS FALSE NEIGHBOUR: 'it returns false'. Refute it at one input. -/
def dentLeavesWrong : ChangeSpec := { name := "dentLeaves", fn := fun _ => fun
  | [d] => { results := [.lit (.bool false)], args := [d] }
  | _ => none }
def DentLeavesWrongFalsely : Prop := dentLeavesRow.holds Try.pinned (OpenSpec.ofChange dentLeavesWrong)

/-- 'vistalaw12.DentNames': WHATEVER THE INPUT: true; the input reads as it did. -/
def dentNamesSpec : ChangeSpec := { name := "dentNames", fn := fun _ => fun
  | [d1, d2] => { results := [.lit (.bool true)], args := [d1, d2] }
  | _ => none }
def dentNamesRow : OpenClaim := { program := "ytmhogjecfgbchaa", sum := "4c0bc3fee25307f8022505707f76c5d3011bcf6115143566d8f05b336f9e75d9", func := "vista/vistalaw12.DentNames", spec := "dentNames", unfollowed := true, recurses := true, plainKeys := false, apart := false }
def DentNamesSaid : Prop := dentNamesRow.holds Try.pinned (OpenSpec.ofChange dentNamesSpec)

/-- ITS FALSE NEIGHBOUR: 'it returns false'. Refute it at one input. -/
def dentNamesWrong : ChangeSpec := { name := "dentNames", fn := fun _ => fun
  | [d1, d2] => { results := [.lit (.bool false)], args := [d1, d2] }
  | _ => none }
def DentNamesWrongFalsely : Prop := dentNamesRow.holds Try.pinned (OpenSpec.ofChange dentNamesWrong)

/-- 'vistalaw12.DentPlays': WHATEVER THE INPUT: true; the input reads as it did. -/
def dentPlaysSpec : ChangeSpec := { name := "dentPlays", fn := fun _ => fun
  | [d] => { results := [.lit (.bool true)], args := [d] }
  | _ => none }
def dentPlaysRow : OpenClaim := { program := "ytmhogjecfgbchaa", sum := "4c0bc3fee25307f8022505707f76c5d3011bcf6115143566d8f05b336f9e75d9", func := "vista/vistalaw12.DentPlays", spec := "dentPlays", unfollowed := true, recurses := true, plainKeys := false, apart := false }
def DentPlaysSaid : Prop := dentPlaysRow.holds Try.pinned (OpenSpec.ofChange dentPlaysSpec)

/-- ITS FALSE NEIGHBOUR: 'it returns false'. Refute it at one input. -/
def dentPlaysWrong : ChangeSpec := { name := "dentPlays", fn := fun _ => fun
  | [d] => { results := [.lit (.bool false)], args := [d] }
  | _ => none }
def DentPlaysWrongFalsely : Prop := dentPlaysRow.holds Try.pinned (OpenSpec.ofChange dentPlaysWrong)

/-- 'vistalaw12.DentSteps': WHATEVER THE INPUT: true; the input reads as it did. -/
def dentStepsSpec : ChangeSpec := { name := "dentSteps", fn := fun _ => fun
  | [d1, d2] => { results := [.lit (.bool true)], args := [d1, d2] }
  | _ => none }
def dentStepsRow : OpenClaim := { program := "ytmhogjecfgbchaa", sum := "4c0bc3fee25307f8022505707f76c5d3011bcf6115143566d8f05b336f9e75d9", func := "vista/vistalaw12.DentSteps", spec := "dentSteps", unfollowed := true, recurses := true, plainKeys := false, apart := false }
def DentStepsSaid : Prop := dentStepsRow.holds Try.pinned (OpenSpec.ofChange dentStepsSpec)

/-- ITS FALSE NEIGHBOUR: 'it returns false'. Refute it at one input. -/
def dentStepsWrong : ChangeSpec := { name := "dentSteps", fn := fun _ => fun
  | [d1, d2] => { results := [.lit (.bool false)], args := [d1, d2] }
  | _ => none }
def DentStepsWrongFalsely : Prop := dentStepsRow.holds Try.pinned (OpenSpec.ofChange dentStepsWrong)

/-- 'vistalaw12.DentKept': WHATEVER THE INPUT: true; the input reads as it did. -/
def dentKeptSpec : ChangeSpec := { name := "dentKept", fn := fun _ => fun
  | [d1, d2] => { results := [.lit (.bool true)], args := [d1, d2] }
  | _ => none }
def dentKeptRow : OpenClaim := { program := "ytmhogjecfgbchaa", sum := "4c0bc3fee25307f8022505707f76c5d3011bcf6115143566d8f05b336f9e75d9", func := "vista/vistalaw12.DentKept", spec := "dentKept", unfollowed := true, recurses := true, plainKeys := false, apart := false }
def DentKeptSaid : Prop := dentKeptRow.holds Try.pinned (OpenSpec.ofChange dentKeptSpec)

/-- ITS FALSE NEIGHBOUR: 'it returns false'. Refute it at one input. -/
def dentKeptWrong : ChangeSpec := { name := "dentKept", fn := fun _ => fun
  | [d1, d2] => { results := [.lit (.bool false)], args := [d1, d2] }
  | _ => none }
def DentKeptWrongFalsely : Prop := dentKeptRow.holds Try.pinned (OpenSpec.ofChange dentKeptWrong)

/-- 'vistalaw13.PruneBounds': WHATEVER THE INPUT: true; the input reads as it did. -/
def pruneBoundsSpec : ChangeSpec := { name := "pruneBounds", fn := fun _ => fun
  | [d1, d2, d3] => { results := [.lit (.bool true)], args := [d1, d2, d3] }
  | _ => none }
def pruneBoundsRow : OpenClaim := { program := "ytmhogjecfgbchaa", sum := "4c0bc3fee25307f8022505707f76c5d3011bcf6115143566d8f05b336f9e75d9", func := "vista/vistalaw13.PruneBounds", spec := "pruneBounds", unfollowed := true, recurses := true, plainKeys := false, apart := false }
def PruneBoundsSaid : Prop := pruneBoundsRow.holds Try.pinned (OpenSpec.ofChange pruneBoundsSpec)

/-- ITS FALSE NEIGHBOUR: 'it returns false'. Refute it at one input. -/
def pruneBoundsWrong : ChangeSpec := { name := "pruneBounds", fn := fun _ => fun
  | [d1, d2, d3] => { results := [.lit (.bool false)], args := [d1, d2, d3] }
  | _ => none }
def PruneBoundsWrongFalsely : Prop := pruneBoundsRow.holds Try.pinned (OpenSpec.ofChange pruneBoundsWrong)

/-- 'vistalaw13.PruneLeaves': WHATEVER THE INPUT: true; the input reads as it did. -/
def pruneLeavesSpec : ChangeSpec := { name := "pruneLeaves", fn := fun _ => fun
  | [d1, d2, d3] => { results := [.lit (.bool true)], args := [d1, d2, d3] }
  | _ => none }
def pruneLeavesRow : OpenClaim := { program := "ytmhogjecfgbchaa", sum := "4c0bc3fee25307f8022505707f76c5d3011bcf6115143566d8f05b336f9e75d9", func := "vista/vistalaw13.PruneLeaves", spec := "pruneLeaves", unfollowed := true, recurses := true, plainKeys := false, apart := false }
def PruneLeavesSaid : Prop := pruneLeavesRow.holds Try.pinned (OpenSpec.ofChange pruneLeavesSpec)

/-- ITS FALSE NEIGHBOUR: 'it returns false'. Refute it at one input. -/
def pruneLeavesWrong : ChangeSpec := { name := "pruneLeaves", fn := fun _ => fun
  | [d1, d2, d3] => { results := [.lit (.bool false)], args := [d1, d2, d3] }
  | _ => none }
def PruneLeavesWrongFalsely : Prop := pruneLeavesRow.holds Try.pinned (OpenSpec.ofChange pruneLeavesWrong)

/-- 'vistalaw13.PruneVictims': WHATEVER THE INPUT: true; the input reads as it did. -/
def pruneVictimsSpec : ChangeSpec := { name := "pruneVictims", fn := fun _ => fun
  | [d1, d2] => { results := [.lit (.bool true)], args := [d1, d2] }
  | _ => none }
def pruneVictimsRow : OpenClaim := { program := "ytmhogjecfgbchaa", sum := "4c0bc3fee25307f8022505707f76c5d3011bcf6115143566d8f05b336f9e75d9", func := "vista/vistalaw13.PruneVictims", spec := "pruneVictims", unfollowed := true, recurses := true, plainKeys := false, apart := false }
def PruneVictimsSaid : Prop := pruneVictimsRow.holds Try.pinned (OpenSpec.ofChange pruneVictimsSpec)

/-- ITS FALSE NEIGHBOUR: 'it returns false'. Refute it at one input. -/
def pruneVictimsWrong : ChangeSpec := { name := "pruneVictims", fn := fun _ => fun
  | [d1, d2] => { results := [.lit (.bool false)], args := [d1, d2] }
  | _ => none }
def PruneVictimsWrongFalsely : Prop := pruneVictimsRow.holds Try.pinned (OpenSpec.ofChange pruneVictimsWrong)

/-- 'vistalaw13.PruneRoom': WHATEVER THE INPUT: true; the input reads as it did. -/
def pruneRoomSpec : ChangeSpec := { name := "pruneRoom", fn := fun _ => fun
  | [d] => { results := [.lit (.bool true)], args := [d] }
  | _ => none }
def pruneRoomRow : OpenClaim := { program := "ytmhogjecfgbchaa", sum := "4c0bc3fee25307f8022505707f76c5d3011bcf6115143566d8f05b336f9e75d9", func := "vista/vistalaw13.PruneRoom", spec := "pruneRoom", unfollowed := true, recurses := true, plainKeys := false, apart := false }
def PruneRoomSaid : Prop := pruneRoomRow.holds Try.pinned (OpenSpec.ofChange pruneRoomSpec)

/-- ITS FALSE NEIGHBOUR: 'it returns false'. Refute it at one input. -/
def pruneRoomWrong : ChangeSpec := { name := "pruneRoom", fn := fun _ => fun
  | [d] => { results := [.lit (.bool false)], args := [d] }
  | _ => none }
def PruneRoomWrongFalsely : Prop := pruneRoomRow.holds Try.pinned (OpenSpec.ofChange pruneRoomWrong)

/-- 'vistalaw13.PruneWhole': WHATEVER THE INPUT: true; the input reads as it did. -/
def pruneWholeSpec : ChangeSpec := { name := "pruneWhole", fn := fun _ => fun
  | [d1, d2, d3, d4] => { results := [.lit (.bool true)], args := [d1, d2, d3, d4] }
  | _ => none }
def pruneWholeRow : OpenClaim := { program := "ytmhogjecfgbchaa", sum := "4c0bc3fee25307f8022505707f76c5d3011bcf6115143566d8f05b336f9e75d9", func := "vista/vistalaw13.PruneWhole", spec := "pruneWhole", unfollowed := true, recurses := true, plainKeys := false, apart := false }
def PruneWholeSaid : Prop := pruneWholeRow.holds Try.pinned (OpenSpec.ofChange pruneWholeSpec)

/-- ITS FALSE NEIGHBOUR: 'it returns false'. Refute it at one input. -/
def pruneWholeWrong : ChangeSpec := { name := "pruneWhole", fn := fun _ => fun
  | [d1, d2, d3, d4] => { results := [.lit (.bool false)], args := [d1, d2, d3, d4] }
  | _ => none }
def PruneWholeWrongFalsely : Prop := pruneWholeRow.holds Try.pinned (OpenSpec.ofChange pruneWholeWrong)

/-- 'vistalaw13.PruneTrims': WHATEVER THE INPUT: true; the input reads as it did. -/
def pruneTrimsSpec : ChangeSpec := { name := "pruneTrims", fn := fun _ => fun
  | [d1, d2, d3] => { results := [.lit (.bool true)], args := [d1, d2, d3] }
  | _ => none }
def pruneTrimsRow : OpenClaim := { program := "ytmhogjecfgbchaa", sum := "4c0bc3fee25307f8022505707f76c5d3011bcf6115143566d8f05b336f9e75d9", func := "vista/vistalaw13.PruneTrims", spec := "pruneTrims", unfollowed := true, recurses := true, plainKeys := false, apart := false }
def PruneTrimsSaid : Prop := pruneTrimsRow.holds Try.pinned (OpenSpec.ofChange pruneTrimsSpec)

/-- ITS FALSE NEIGHBOUR: 'it returns false'. Refute it at one input. -/
def pruneTrimsWrong : ChangeSpec := { name := "pruneTrims", fn := fun _ => fun
  | [d1, d2, d3] => { results := [.lit (.bool false)], args := [d1, d2, d3] }
  | _ => none }
def PruneTrimsWrongFalsely : Prop := pruneTrimsRow.holds Try.pinned (OpenSpec.ofChange pruneTrimsWrong)

/-- 'vistalaw13.PruneKept': WHATEVER THE INPUT: true; the input reads as it did. -/
def pruneKeptSpec : ChangeSpec := { name := "pruneKept", fn := fun _ => fun
  | [d1, d2, d3] => { results := [.lit (.bool true)], args := [d1, d2, d3] }
  | _ => none }
def pruneKeptRow : OpenClaim := { program := "ytmhogjecfgbchaa", sum := "4c0bc3fee25307f8022505707f76c5d3011bcf6115143566d8f05b336f9e75d9", func := "vista/vistalaw13.PruneKept", spec := "pruneKept", unfollowed := true, recurses := true, plainKeys := false, apart := false }
def PruneKeptSaid : Prop := pruneKeptRow.holds Try.pinned (OpenSpec.ofChange pruneKeptSpec)

/-- ITS FALSE NEIGHBOUR: 'it returns false'. Refute it at one input. -/
def pruneKeptWrong : ChangeSpec := { name := "pruneKept", fn := fun _ => fun
  | [d1, d2, d3] => { results := [.lit (.bool false)], args := [d1, d2, d3] }
  | _ => none }
def PruneKeptWrongFalsely : Prop := pruneKeptRow.holds Try.pinned (OpenSpec.ofChange pruneKeptWrong)

/- THE SECOND FORM. 'bulk': how many values and letters a reading holds, each counted each time it is reached (what is shared counts as often as it is met; a slice's spare places count too). A statement '..UptoSaid' is the law's where the arguments, and the package variables that the reading takes, are together of bulk at most 1048576: NARROWER than '..Said'. Prove '..Said' where nothing that the law and all that it calls make is longer than what came in: it says more and counts as full. Else prove '..UptoSaid'. A law counts once. -/
mutual
def uptoBulk {H : Type} : DataW H → Nat
  | .lit (.string bytes) => bytes.length + 1
  | .lit _ => 1
  | .nil => 1
  | .ptr d => uptoBulk d + 1
  | .slice elems spare => uptoBulkAll elems + uptoBulkAll spare + 1
  | .agg parts => uptoBulkAll parts + 1
  | .iface _ d => uptoBulk d + 1
  | .map entries => uptoBulkEntries entries + 1
  | .held _ => 1
def uptoBulkAll {H : Type} : List (DataW H) → Nat
  | [] => 0
  | d :: r => uptoBulk d + uptoBulkAll r
def uptoBulkEntries {H : Type} : List (Lit × DataW H) → Nat
  | [] => 0
  | x :: r => uptoBulkEntry x + uptoBulkEntries r
def uptoBulkEntry {H : Type} : Lit × DataW H → Nat
  | (.string bytes, d) => bytes.length + uptoBulk d + 1
  | (_, d) => uptoBulk d + 1
 end
def uptoSmall : (H : Type) → List (DataW H) → Bool := fun _ ds => decide (uptoBulkAll ds ≤ 1048576)
def OpenSpec.upto (s : _root_.Go.ChangeSpec) : _root_.Go.OpenSpec := { _root_.Go.OpenSpec.ofChange s with cond := some uptoSmall }

/-- 'vistalaw12.DentWhole', WHERE WHAT IT READS IS OF BULK AT MOST 1048576: true; the input reads as it did. -/
def dentWholeUptoRow : OpenClaim := { program := "ytmhogjecfgbchaa", sum := "4c0bc3fee25307f8022505707f76c5d3011bcf6115143566d8f05b336f9e75d9", func := "vista/vistalaw12.DentWhole", spec := "dentWhole", plainKeys := false, apart := false, narrowed := true }
def DentWholeUptoSaid : Prop := dentWholeUptoRow.holds Try.pinned (OpenSpec.upto dentWholeSpec)

/-- 'vistalaw12.DentUses', WHERE WHAT IT READS IS OF BULK AT MOST 1048576: true; the input reads as it did. -/
def dentUsesUptoRow : OpenClaim := { program := "ytmhogjecfgbchaa", sum := "4c0bc3fee25307f8022505707f76c5d3011bcf6115143566d8f05b336f9e75d9", func := "vista/vistalaw12.DentUses", spec := "dentUses", unfollowed := true, recurses := true, plainKeys := false, apart := false, narrowed := true }
def DentUsesUptoSaid : Prop := dentUsesUptoRow.holds Try.pinned (OpenSpec.upto dentUsesSpec)

/-- 'vistalaw12.DentCuts', WHERE WHAT IT READS IS OF BULK AT MOST 1048576: true; the input reads as it did. -/
def dentCutsUptoRow : OpenClaim := { program := "ytmhogjecfgbchaa", sum := "4c0bc3fee25307f8022505707f76c5d3011bcf6115143566d8f05b336f9e75d9", func := "vista/vistalaw12.DentCuts", spec := "dentCuts", unfollowed := true, recurses := true, plainKeys := false, apart := false, narrowed := true }
def DentCutsUptoSaid : Prop := dentCutsUptoRow.holds Try.pinned (OpenSpec.upto dentCutsSpec)

/-- 'vistalaw12.DentEvicts', WHERE WHAT IT READS IS OF BULK AT MOST 1048576: true; the input reads as it did. -/
def dentEvictsUptoRow : OpenClaim := { program := "ytmhogjecfgbchaa", sum := "4c0bc3fee25307f8022505707f76c5d3011bcf6115143566d8f05b336f9e75d9", func := "vista/vistalaw12.DentEvicts", spec := "dentEvicts", unfollowed := true, recurses := true, plainKeys := false, apart := false, narrowed := true }
def DentEvictsUptoSaid : Prop := dentEvictsUptoRow.holds Try.pinned (OpenSpec.upto dentEvictsSpec)

/-- 'vistalaw12.DentLeaves', WHERE WHAT IT READS IS OF BULK AT MOST 1048576: true; the input reads as it did. -/
def dentLeavesUptoRow : OpenClaim := { program := "ytmhogjecfgbchaa", sum := "4c0bc3fee25307f8022505707f76c5d3011bcf6115143566d8f05b336f9e75d9", func := "vista/vistalaw12.DentLeaves", spec := "dentLeaves", unfollowed := true, recurses := true, plainKeys := false, apart := false, narrowed := true }
def DentLeavesUptoSaid : Prop := dentLeavesUptoRow.holds Try.pinned (OpenSpec.upto dentLeavesSpec)

/-- 'vistalaw12.DentNames', WHERE WHAT IT READS IS OF BULK AT MOST 1048576: true; the input reads as it did. -/
def dentNamesUptoRow : OpenClaim := { program := "ytmhogjecfgbchaa", sum := "4c0bc3fee25307f8022505707f76c5d3011bcf6115143566d8f05b336f9e75d9", func := "vista/vistalaw12.DentNames", spec := "dentNames", unfollowed := true, recurses := true, plainKeys := false, apart := false, narrowed := true }
def DentNamesUptoSaid : Prop := dentNamesUptoRow.holds Try.pinned (OpenSpec.upto dentNamesSpec)

/-- 'vistalaw12.DentPlays', WHERE WHAT IT READS IS OF BULK AT MOST 1048576: true; the input reads as it did. -/
def dentPlaysUptoRow : OpenClaim := { program := "ytmhogjecfgbchaa", sum := "4c0bc3fee25307f8022505707f76c5d3011bcf6115143566d8f05b336f9e75d9", func := "vista/vistalaw12.DentPlays", spec := "dentPlays", unfollowed := true, recurses := true, plainKeys := false, apart := false, narrowed := true }
def DentPlaysUptoSaid : Prop := dentPlaysUptoRow.holds Try.pinned (OpenSpec.upto dentPlaysSpec)

/-- 'vistalaw12.DentSteps', WHERE WHAT IT READS IS OF BULK AT MOST 1048576: true; the input reads as it did. -/
def dentStepsUptoRow : OpenClaim := { program := "ytmhogjecfgbchaa", sum := "4c0bc3fee25307f8022505707f76c5d3011bcf6115143566d8f05b336f9e75d9", func := "vista/vistalaw12.DentSteps", spec := "dentSteps", unfollowed := true, recurses := true, plainKeys := false, apart := false, narrowed := true }
def DentStepsUptoSaid : Prop := dentStepsUptoRow.holds Try.pinned (OpenSpec.upto dentStepsSpec)

/-- 'vistalaw12.DentKept', WHERE WHAT IT READS IS OF BULK AT MOST 1048576: true; the input reads as it did. -/
def dentKeptUptoRow : OpenClaim := { program := "ytmhogjecfgbchaa", sum := "4c0bc3fee25307f8022505707f76c5d3011bcf6115143566d8f05b336f9e75d9", func := "vista/vistalaw12.DentKept", spec := "dentKept", unfollowed := true, recurses := true, plainKeys := false, apart := false, narrowed := true }
def DentKeptUptoSaid : Prop := dentKeptUptoRow.holds Try.pinned (OpenSpec.upto dentKeptSpec)

/-- 'vistalaw13.PruneBounds', WHERE WHAT IT READS IS OF BULK AT MOST 1048576: true; the input reads as it did. -/
def pruneBoundsUptoRow : OpenClaim := { program := "ytmhogjecfgbchaa", sum := "4c0bc3fee25307f8022505707f76c5d3011bcf6115143566d8f05b336f9e75d9", func := "vista/vistalaw13.PruneBounds", spec := "pruneBounds", unfollowed := true, recurses := true, plainKeys := false, apart := false, narrowed := true }
def PruneBoundsUptoSaid : Prop := pruneBoundsUptoRow.holds Try.pinned (OpenSpec.upto pruneBoundsSpec)

/-- 'vistalaw13.PruneLeaves', WHERE WHAT IT READS IS OF BULK AT MOST 1048576: true; the input reads as it did. -/
def pruneLeavesUptoRow : OpenClaim := { program := "ytmhogjecfgbchaa", sum := "4c0bc3fee25307f8022505707f76c5d3011bcf6115143566d8f05b336f9e75d9", func := "vista/vistalaw13.PruneLeaves", spec := "pruneLeaves", unfollowed := true, recurses := true, plainKeys := false, apart := false, narrowed := true }
def PruneLeavesUptoSaid : Prop := pruneLeavesUptoRow.holds Try.pinned (OpenSpec.upto pruneLeavesSpec)

/-- 'vistalaw13.PruneVictims', WHERE WHAT IT READS IS OF BULK AT MOST 1048576: true; the input reads as it did. -/
def pruneVictimsUptoRow : OpenClaim := { program := "ytmhogjecfgbchaa", sum := "4c0bc3fee25307f8022505707f76c5d3011bcf6115143566d8f05b336f9e75d9", func := "vista/vistalaw13.PruneVictims", spec := "pruneVictims", unfollowed := true, recurses := true, plainKeys := false, apart := false, narrowed := true }
def PruneVictimsUptoSaid : Prop := pruneVictimsUptoRow.holds Try.pinned (OpenSpec.upto pruneVictimsSpec)

/-- 'vistalaw13.PruneRoom', WHERE WHAT IT READS IS OF BULK AT MOST 1048576: true; the input reads as it did. -/
def pruneRoomUptoRow : OpenClaim := { program := "ytmhogjecfgbchaa", sum := "4c0bc3fee25307f8022505707f76c5d3011bcf6115143566d8f05b336f9e75d9", func := "vista/vistalaw13.PruneRoom", spec := "pruneRoom", unfollowed := true, recurses := true, plainKeys := false, apart := false, narrowed := true }
def PruneRoomUptoSaid : Prop := pruneRoomUptoRow.holds Try.pinned (OpenSpec.upto pruneRoomSpec)

/-- 'vistalaw13.PruneWhole', WHERE WHAT IT READS IS OF BULK AT MOST 1048576: true; the input reads as it did. -/
def pruneWholeUptoRow : OpenClaim := { program := "ytmhogjecfgbchaa", sum := "4c0bc3fee25307f8022505707f76c5d3011bcf6115143566d8f05b336f9e75d9", func := "vista/vistalaw13.PruneWhole", spec := "pruneWhole", unfollowed := true, recurses := true, plainKeys := false, apart := false, narrowed := true }
def PruneWholeUptoSaid : Prop := pruneWholeUptoRow.holds Try.pinned (OpenSpec.upto pruneWholeSpec)

/-- 'vistalaw13.PruneTrims', WHERE WHAT IT READS IS OF BULK AT MOST 1048576: true; the input reads as it did. -/
def pruneTrimsUptoRow : OpenClaim := { program := "ytmhogjecfgbchaa", sum := "4c0bc3fee25307f8022505707f76c5d3011bcf6115143566d8f05b336f9e75d9", func := "vista/vistalaw13.PruneTrims", spec := "pruneTrims", unfollowed := true, recurses := true, plainKeys := false, apart := false, narrowed := true }
def PruneTrimsUptoSaid : Prop := pruneTrimsUptoRow.holds Try.pinned (OpenSpec.upto pruneTrimsSpec)

/-- 'vistalaw13.PruneKept', WHERE WHAT IT READS IS OF BULK AT MOST 1048576: true; the input reads as it did. -/
def pruneKeptUptoRow : OpenClaim := { program := "ytmhogjecfgbchaa", sum := "4c0bc3fee25307f8022505707f76c5d3011bcf6115143566d8f05b336f9e75d9", func := "vista/vistalaw13.PruneKept", spec := "pruneKept", unfollowed := true, recurses := true, plainKeys := false, apart := false, narrowed := true }
def PruneKeptUptoSaid : Prop := pruneKeptUptoRow.holds Try.pinned (OpenSpec.upto pruneKeptSpec)

end Rows
end Go.Proofs.Ytmhogjecfgbchaa
