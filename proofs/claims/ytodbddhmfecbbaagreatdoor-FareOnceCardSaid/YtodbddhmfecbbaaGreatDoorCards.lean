/-
  DERIVED. GIVEN WITH THE SEED: THE CARDS: each row of YtodbddhmfecbbaaGreatDoorRows.lean that lists a variable, with what it lists TIED to the program's text (the seventh form; the later family's looks); each row that meets fmt, with fmt's text TOLD by the authors' own Lean function (tested against real Go, not proved from fmt's source: count such statements apart). THE CARD IS WHAT COUNTS. Prove the row's statement (the work); the ties are given (YtodbddhmfecbbaaGreatDoorTie.lean); close each card by the builder's one call (the guide's Derived/Test/ToyasCard.lean, 'card_holds'). Laid BY PROGRAM, IN A SANDBOX (cutbox-door.mjs). By AI agents, Wed Nov 11 2026. No macro, syntax, notation, axiom, sorry.
-/
import Derived.Test.YtodbddhmfecbbaaGreatDoorRows
import GoSem.ClaimSeven
namespace Go.Proofs.YtodbddhmfecbbaaGreatDoor
namespace Rows

/-- THE TIED CARD OF 'fishkeep2.FareLess'. -/
def fareLessCard : Claim7 := { stood := { row := fareLessRow, standIns := [], harness := (true, "4e3be0113d941e06885c8b7b4f46a567ce977fcd01901e696592c7b50e21d9f8"), looks := true }, kinds := [], alts := [], laidByText := true, laidKinds := [.data, .data, .data, .data, .sentinel, .sentinel, .pinned], laidTests := true, laidLooks := .later }
def FareLessCardSaid : Prop := Claim7.holds Tryz.pinned (.plain (OpenSpec.ofChange fareLessSpec)) fareLessCard

/-- THE TIED CARD OF 'fishkeep2.FareForges'. -/
def fareForgesCard : Claim7 := { stood := { row := fareForgesRow, standIns := [], harness := (true, "4e3be0113d941e06885c8b7b4f46a567ce977fcd01901e696592c7b50e21d9f8"), looks := true }, kinds := [], alts := [], laidByText := true, laidKinds := [.data, .data, .data, .data, .sentinel, .sentinel, .pinned], laidTests := true, laidLooks := .later }
def FareForgesCardSaid : Prop := Claim7.holds Tryz.pinned (.plain (OpenSpec.ofChange fareForgesSpec)) fareForgesCard

/-- THE TIED CARD OF 'fishkeep2.FareWhole'. -/
def fareWholeCard : Claim7 := { stood := { row := fareWholeRow, standIns := [], harness := (true, "4e3be0113d941e06885c8b7b4f46a567ce977fcd01901e696592c7b50e21d9f8"), looks := true }, kinds := [], alts := [], laidByText := true, laidKinds := [.data, .data, .data, .data, .sentinel, .sentinel, .pinned], laidTests := true, laidLooks := .later }
def FareWholeCardSaid : Prop := Claim7.holds Tryz.pinned (.plain (OpenSpec.ofChange fareWholeSpec)) fareWholeCard

/-- THE TIED CARD OF 'fishkeep2.FarePacked'. -/
def farePackedCard : Claim7 := { stood := { row := farePackedRow, standIns := [], harness := (true, "4e3be0113d941e06885c8b7b4f46a567ce977fcd01901e696592c7b50e21d9f8"), looks := true }, kinds := [], alts := [], laidByText := true, laidKinds := [.data, .data, .data, .data, .sentinel, .sentinel, .pinned], laidTests := true, laidLooks := .later }
def FarePackedCardSaid : Prop := Claim7.holds Tryz.pinned (.plain (OpenSpec.ofChange farePackedSpec)) farePackedCard

/-- THE TIED CARD OF 'fishkeep2.FareOnce'. -/
def fareOnceCard : Claim7 := { stood := { row := fareOnceRow, standIns := [], harness := (true, "4e3be0113d941e06885c8b7b4f46a567ce977fcd01901e696592c7b50e21d9f8"), looks := true }, kinds := [], alts := [], laidByText := true, laidKinds := [.data, .data, .data, .data, .sentinel, .sentinel, .pinned], laidTests := true, laidLooks := .later }
def FareOnceCardSaid : Prop := Claim7.holds Tryz.pinned (.plain (OpenSpec.ofChange fareOnceSpec)) fareOnceCard

/-- THE SECOND FORM's CARD OF 'fishkeep2.FareLess'. -/
def fareLessUptoCard : Claim7 := { stood := { row := fareLessUptoRow, standIns := [], harness := (true, "4e3be0113d941e06885c8b7b4f46a567ce977fcd01901e696592c7b50e21d9f8"), looks := true }, kinds := [], alts := [], laidByText := true, laidKinds := [.data, .data, .data, .data, .sentinel, .sentinel, .pinned], laidTests := true, laidLooks := .later }
def FareLessUptoCardSaid : Prop := Claim7.holds Tryz.pinned (.plain (OpenSpec.upto fareLessSpec)) fareLessUptoCard

/-- THE SECOND FORM's CARD OF 'fishkeep2.FareForges'. -/
def fareForgesUptoCard : Claim7 := { stood := { row := fareForgesUptoRow, standIns := [], harness := (true, "4e3be0113d941e06885c8b7b4f46a567ce977fcd01901e696592c7b50e21d9f8"), looks := true }, kinds := [], alts := [], laidByText := true, laidKinds := [.data, .data, .data, .data, .sentinel, .sentinel, .pinned], laidTests := true, laidLooks := .later }
def FareForgesUptoCardSaid : Prop := Claim7.holds Tryz.pinned (.plain (OpenSpec.upto fareForgesSpec)) fareForgesUptoCard

/-- THE SECOND FORM's CARD OF 'fishkeep2.FareWhole'. -/
def fareWholeUptoCard : Claim7 := { stood := { row := fareWholeUptoRow, standIns := [], harness := (true, "4e3be0113d941e06885c8b7b4f46a567ce977fcd01901e696592c7b50e21d9f8"), looks := true }, kinds := [], alts := [], laidByText := true, laidKinds := [.data, .data, .data, .data, .sentinel, .sentinel, .pinned], laidTests := true, laidLooks := .later }
def FareWholeUptoCardSaid : Prop := Claim7.holds Tryz.pinned (.plain (OpenSpec.upto fareWholeSpec)) fareWholeUptoCard

/-- THE SECOND FORM's CARD OF 'fishkeep2.FarePacked'. -/
def farePackedUptoCard : Claim7 := { stood := { row := farePackedUptoRow, standIns := [], harness := (true, "4e3be0113d941e06885c8b7b4f46a567ce977fcd01901e696592c7b50e21d9f8"), looks := true }, kinds := [], alts := [], laidByText := true, laidKinds := [.data, .data, .data, .data, .sentinel, .sentinel, .pinned], laidTests := true, laidLooks := .later }
def FarePackedUptoCardSaid : Prop := Claim7.holds Tryz.pinned (.plain (OpenSpec.upto farePackedSpec)) farePackedUptoCard

/-- THE SECOND FORM's CARD OF 'fishkeep2.FareOnce'. -/
def fareOnceUptoCard : Claim7 := { stood := { row := fareOnceUptoRow, standIns := [], harness := (true, "4e3be0113d941e06885c8b7b4f46a567ce977fcd01901e696592c7b50e21d9f8"), looks := true }, kinds := [], alts := [], laidByText := true, laidKinds := [.data, .data, .data, .data, .sentinel, .sentinel, .pinned], laidTests := true, laidLooks := .later }
def FareOnceUptoCardSaid : Prop := Claim7.holds Tryz.pinned (.plain (OpenSpec.upto fareOnceSpec)) fareOnceUptoCard
end Rows
end Go.Proofs.YtodbddhmfecbbaaGreatDoor
