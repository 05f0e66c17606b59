/-
  DERIVED. GIVEN WITH THE SEED: THE CARDS: each row of YtbjibkjenleloaaGreatDoorRows.lean that lists a variable, with what it lists TIED to the program's text (the seventh form; the later family's looks); each row that meets fmt, with fmt's text TOLD by the authors' own Lean function (tested against real Go, not proved from fmt's source: count such statements apart). THE CARD IS WHAT COUNTS. Prove the row's statement (the work); the ties are given (YtbjibkjenleloaaGreatDoorTie.lean); close each card by the builder's one call (the guide's Derived/Test/ToyasCard.lean, 'card_holds'). Laid BY PROGRAM, IN A SANDBOX (cutbox-door.mjs). By AI agents, Wed Nov 11 2026. No macro, syntax, notation, axiom, sorry.
-/
import Derived.Test.YtbjibkjenleloaaGreatDoorRows
import GoSem.ClaimSeven
namespace Go.Proofs.YtbjibkjenleloaaGreatDoor
namespace Rows

/-- THE TIED CARD OF 'vistalaw15.CallMutates'. -/
def callMutatesCard : Claim7 := { stood := { row := callMutatesRow, standIns := [], harness := (true, "d03904b4a99052a743216906364f87c7728db7bc2008a0c339f8723684df4011"), looks := false }, kinds := [], alts := [], laidByText := true, laidKinds := [.data, .pinned], laidTests := true, laidLooks := .later }
def CallMutatesCardSaid : Prop := Claim7.holds Tryz.pinned (.plain (OpenSpec.ofChange callMutatesSpec)) callMutatesCard

/-- THE TIED CARD OF 'vistalaw15.CallLists'. -/
def callListsCard : Claim7 := { stood := { row := callListsRow, standIns := [], harness := (true, "d03904b4a99052a743216906364f87c7728db7bc2008a0c339f8723684df4011"), looks := false }, kinds := [], alts := [], laidByText := true, laidKinds := [.data, .pinned], laidTests := true, laidLooks := .later }
def CallListsCardSaid : Prop := Claim7.holds Tryz.pinned (.plain (OpenSpec.ofChange callListsSpec)) callListsCard

/-- THE TIED CARD OF 'vistalaw15.CallAgains'. -/
def callAgainsCard : Claim7 := { stood := { row := callAgainsRow, standIns := [], harness := (true, "d03904b4a99052a743216906364f87c7728db7bc2008a0c339f8723684df4011"), looks := false }, kinds := [], alts := [], laidByText := true, laidKinds := [.data, .pinned], laidTests := true, laidLooks := .later }
def CallAgainsCardSaid : Prop := Claim7.holds Tryz.pinned (.plain (OpenSpec.ofChange callAgainsSpec)) callAgainsCard

/-- THE TIED CARD OF 'vistalaw15.CallNews'. -/
def callNewsCard : Claim7 := { stood := { row := callNewsRow, standIns := [], harness := (true, "d03904b4a99052a743216906364f87c7728db7bc2008a0c339f8723684df4011"), looks := false }, kinds := [], alts := [], laidByText := true, laidKinds := [.data, .pinned], laidTests := true, laidLooks := .later }
def CallNewsCardSaid : Prop := Claim7.holds Tryz.pinned (.plain (OpenSpec.ofChange callNewsSpec)) callNewsCard

/-- THE SECOND FORM's CARD OF 'vistalaw15.CallMutates'. -/
def callMutatesUptoCard : Claim7 := { stood := { row := callMutatesUptoRow, standIns := [], harness := (true, "d03904b4a99052a743216906364f87c7728db7bc2008a0c339f8723684df4011"), looks := false }, kinds := [], alts := [], laidByText := true, laidKinds := [.data, .pinned], laidTests := true, laidLooks := .later }
def CallMutatesUptoCardSaid : Prop := Claim7.holds Tryz.pinned (.plain (OpenSpec.upto callMutatesSpec)) callMutatesUptoCard

/-- THE SECOND FORM's CARD OF 'vistalaw15.CallLists'. -/
def callListsUptoCard : Claim7 := { stood := { row := callListsUptoRow, standIns := [], harness := (true, "d03904b4a99052a743216906364f87c7728db7bc2008a0c339f8723684df4011"), looks := false }, kinds := [], alts := [], laidByText := true, laidKinds := [.data, .pinned], laidTests := true, laidLooks := .later }
def CallListsUptoCardSaid : Prop := Claim7.holds Tryz.pinned (.plain (OpenSpec.upto callListsSpec)) callListsUptoCard

/-- THE SECOND FORM's CARD OF 'vistalaw15.CallAgains'. -/
def callAgainsUptoCard : Claim7 := { stood := { row := callAgainsUptoRow, standIns := [], harness := (true, "d03904b4a99052a743216906364f87c7728db7bc2008a0c339f8723684df4011"), looks := false }, kinds := [], alts := [], laidByText := true, laidKinds := [.data, .pinned], laidTests := true, laidLooks := .later }
def CallAgainsUptoCardSaid : Prop := Claim7.holds Tryz.pinned (.plain (OpenSpec.upto callAgainsSpec)) callAgainsUptoCard

/-- THE SECOND FORM's CARD OF 'vistalaw15.CallNews'. -/
def callNewsUptoCard : Claim7 := { stood := { row := callNewsUptoRow, standIns := [], harness := (true, "d03904b4a99052a743216906364f87c7728db7bc2008a0c339f8723684df4011"), looks := false }, kinds := [], alts := [], laidByText := true, laidKinds := [.data, .pinned], laidTests := true, laidLooks := .later }
def CallNewsUptoCardSaid : Prop := Claim7.holds Tryz.pinned (.plain (OpenSpec.upto callNewsSpec)) callNewsUptoCard
end Rows
end Go.Proofs.YtbjibkjenleloaaGreatDoor
