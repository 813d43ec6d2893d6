/-
  DERIVED. GIVEN WITH THE SEED: THE CARDS: each row of YtoamdmkakblnnaaDoorRows.lean that lists a variable, with what it lists TIED to the program's text (the seventh form; the later family's looks); each row that meets fmt, with fmt's text TOLD by the authors' own Lean function (tested against real Go, not proved from fmt's source: count such statements apart). THE CARD IS WHAT COUNTS. Prove the row's statement (the work); the ties are given (YtoamdmkakblnnaaDoorTie.lean); close each card by the builder's one call (the guide's Derived/Test/ToyasCard.lean, 'card_holds'). Laid BY PROGRAM, IN A SANDBOX (cutbox-door.mjs). By AI agents, Wed Nov 11 2026. No macro, syntax, notation, axiom, sorry.
-/
import Derived.Test.YtoamdmkakblnnaaDoorRows
import GoSem.ClaimSeven
namespace Go.Proofs.YtoamdmkakblnnaaDoor
namespace Rows

/-- THE TIED CARD OF 'fishkeep1.LineTurns'. -/
def lineTurnsCard : Claim7 := { stood := { row := lineTurnsRow, standIns := [], harness := (true, "2424766e35e1da6b97e4d822a18393bc1a437a8ac12c0a14beb017df04be70b4"), looks := true }, kinds := [], alts := [], laidByText := true, laidKinds := [.data, .data, .data, .data, .sentinel, .sentinel, .pinned], laidTests := true, laidLooks := .later }
def LineTurnsCardSaid : Prop := Claim7.holds Tryd.pinned (.plain (OpenSpec.ofChange lineTurnsSpec)) lineTurnsCard

/-- THE TIED CARD OF 'fishkeep1.LineFar'. -/
def lineFarCard : Claim7 := { stood := { row := lineFarRow, standIns := [], harness := (true, "2424766e35e1da6b97e4d822a18393bc1a437a8ac12c0a14beb017df04be70b4"), looks := true }, kinds := [], alts := [], laidByText := true, laidKinds := [.data, .data, .data, .data, .sentinel, .sentinel, .pinned], laidTests := true, laidLooks := .later }
def LineFarCardSaid : Prop := Claim7.holds Tryd.pinned (.plain (OpenSpec.ofChange lineFarSpec)) lineFarCard

/-- THE TIED CARD OF 'fishkeep1.LineRuns'. -/
def lineRunsCard : Claim7 := { stood := { row := lineRunsRow, standIns := [], harness := (true, "2424766e35e1da6b97e4d822a18393bc1a437a8ac12c0a14beb017df04be70b4"), looks := true }, kinds := [], alts := [], laidByText := true, laidKinds := [.data, .data, .data, .data, .sentinel, .sentinel, .pinned], laidTests := true, laidLooks := .later }
def LineRunsCardSaid : Prop := Claim7.holds Tryd.pinned (.plain (OpenSpec.ofChange lineRunsSpec)) lineRunsCard

/-- THE SECOND FORM's CARD OF 'fishkeep1.LineTurns'. -/
def lineTurnsUptoCard : Claim7 := { stood := { row := lineTurnsUptoRow, standIns := [], harness := (true, "2424766e35e1da6b97e4d822a18393bc1a437a8ac12c0a14beb017df04be70b4"), looks := true }, kinds := [], alts := [], laidByText := true, laidKinds := [.data, .data, .data, .data, .sentinel, .sentinel, .pinned], laidTests := true, laidLooks := .later }
def LineTurnsUptoCardSaid : Prop := Claim7.holds Tryd.pinned (.plain (OpenSpec.upto lineTurnsSpec)) lineTurnsUptoCard

/-- THE SECOND FORM's CARD OF 'fishkeep1.LineFar'. -/
def lineFarUptoCard : Claim7 := { stood := { row := lineFarUptoRow, standIns := [], harness := (true, "2424766e35e1da6b97e4d822a18393bc1a437a8ac12c0a14beb017df04be70b4"), looks := true }, kinds := [], alts := [], laidByText := true, laidKinds := [.data, .data, .data, .data, .sentinel, .sentinel, .pinned], laidTests := true, laidLooks := .later }
def LineFarUptoCardSaid : Prop := Claim7.holds Tryd.pinned (.plain (OpenSpec.upto lineFarSpec)) lineFarUptoCard

/-- THE SECOND FORM's CARD OF 'fishkeep1.LineRuns'. -/
def lineRunsUptoCard : Claim7 := { stood := { row := lineRunsUptoRow, standIns := [], harness := (true, "2424766e35e1da6b97e4d822a18393bc1a437a8ac12c0a14beb017df04be70b4"), looks := true }, kinds := [], alts := [], laidByText := true, laidKinds := [.data, .data, .data, .data, .sentinel, .sentinel, .pinned], laidTests := true, laidLooks := .later }
def LineRunsUptoCardSaid : Prop := Claim7.holds Tryd.pinned (.plain (OpenSpec.upto lineRunsSpec)) lineRunsUptoCard
end Rows
end Go.Proofs.YtoamdmkakblnnaaDoor
