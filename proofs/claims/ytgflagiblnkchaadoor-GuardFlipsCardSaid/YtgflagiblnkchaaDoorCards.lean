/-
  DERIVED. GIVEN WITH THE SEED: THE CARDS: each row of YtgflagiblnkchaaDoorRows.lean that lists a variable, with what it lists TIED to the program's text (the seventh form; the later family's looks); each row that meets fmt, with fmt's text TOLD by the authors' own Lean function (tested against real Go, not proved from fmt's source: count such statements apart). THE CARD IS WHAT COUNTS. Prove the row's statement (the work); the ties are given (YtgflagiblnkchaaDoorTie.lean); close each card by the builder's one call (the guide's Derived/Test/ToyasCard.lean, 'card_holds'). Laid BY PROGRAM, IN A SANDBOX (cutbox-door.mjs). By AI agents, Wed Nov 11 2026. No macro, syntax, notation, axiom, sorry.
-/
import Derived.Test.YtgflagiblnkchaaDoorRows
import GoSem.ClaimSeven
namespace Go.Proofs.YtgflagiblnkchaaDoor
namespace Rows

/-- THE TIED CARD OF 'fishkeep1.GuardFlips'. -/
def guardFlipsCard : Claim7 := { stood := { row := guardFlipsRow, standIns := [], harness := (true, "2c5f4298fed040123564a67d98974f2af11fa4bca40d92f60130d01e2b8fabc8"), looks := true }, kinds := [], alts := [], laidByText := true, laidKinds := [.data, .data, .data, .data, .sentinel, .sentinel, .pinned], laidTests := true, laidLooks := .later }
def GuardFlipsCardSaid : Prop := Claim7.holds Tryd.pinned (.plain (OpenSpec.ofChange guardFlipsSpec)) guardFlipsCard

/-- THE TIED CARD OF 'fishkeep1.GuardTold'. -/
def guardToldCard : Claim7 := { stood := { row := guardToldRow, standIns := [], harness := (true, "2c5f4298fed040123564a67d98974f2af11fa4bca40d92f60130d01e2b8fabc8"), looks := true }, kinds := [], alts := [], laidByText := true, laidKinds := [.data, .data, .data, .data, .sentinel, .sentinel, .pinned], laidTests := true, laidLooks := .later }
def GuardToldCardSaid : Prop := Claim7.holds Tryd.pinned (.plain (OpenSpec.ofChange guardToldSpec)) guardToldCard

/-- THE TIED CARD OF 'fishkeep1.GuardRadio'. -/
def guardRadioCard : Claim7 := { stood := { row := guardRadioRow, standIns := [], harness := (true, "2c5f4298fed040123564a67d98974f2af11fa4bca40d92f60130d01e2b8fabc8"), looks := true }, kinds := [], alts := [], laidByText := true, laidKinds := [.data, .data, .data, .data, .sentinel, .sentinel, .pinned], laidTests := true, laidLooks := .later }
def GuardRadioCardSaid : Prop := Claim7.holds Tryd.pinned (.plain (OpenSpec.ofChange guardRadioSpec)) guardRadioCard

/-- THE TIED CARD OF 'fishkeep1.GuardSeconds'. -/
def guardSecondsCard : Claim7 := { stood := { row := guardSecondsRow, standIns := [], harness := (true, "2c5f4298fed040123564a67d98974f2af11fa4bca40d92f60130d01e2b8fabc8"), looks := true }, kinds := [], alts := [], laidByText := true, laidKinds := [.data, .data, .data, .data, .sentinel, .sentinel, .pinned], laidTests := true, laidLooks := .later }
def GuardSecondsCardSaid : Prop := Claim7.holds Tryd.pinned (.plain (OpenSpec.ofChange guardSecondsSpec)) guardSecondsCard

/-- THE TIED CARD OF 'fishkeep1.GuardStops'. -/
def guardStopsCard : Claim7 := { stood := { row := guardStopsRow, standIns := [], harness := (true, "2c5f4298fed040123564a67d98974f2af11fa4bca40d92f60130d01e2b8fabc8"), looks := true }, kinds := [], alts := [], laidByText := true, laidKinds := [.data, .data, .data, .data, .sentinel, .sentinel, .pinned], laidTests := true, laidLooks := .later }
def GuardStopsCardSaid : Prop := Claim7.holds Tryd.pinned (.plain (OpenSpec.ofChange guardStopsSpec)) guardStopsCard

/-- THE SECOND FORM's CARD OF 'fishkeep1.GuardFlips'. -/
def guardFlipsUptoCard : Claim7 := { stood := { row := guardFlipsUptoRow, standIns := [], harness := (true, "2c5f4298fed040123564a67d98974f2af11fa4bca40d92f60130d01e2b8fabc8"), looks := true }, kinds := [], alts := [], laidByText := true, laidKinds := [.data, .data, .data, .data, .sentinel, .sentinel, .pinned], laidTests := true, laidLooks := .later }
def GuardFlipsUptoCardSaid : Prop := Claim7.holds Tryd.pinned (.plain (OpenSpec.upto guardFlipsSpec)) guardFlipsUptoCard

/-- THE SECOND FORM's CARD OF 'fishkeep1.GuardTold'. -/
def guardToldUptoCard : Claim7 := { stood := { row := guardToldUptoRow, standIns := [], harness := (true, "2c5f4298fed040123564a67d98974f2af11fa4bca40d92f60130d01e2b8fabc8"), looks := true }, kinds := [], alts := [], laidByText := true, laidKinds := [.data, .data, .data, .data, .sentinel, .sentinel, .pinned], laidTests := true, laidLooks := .later }
def GuardToldUptoCardSaid : Prop := Claim7.holds Tryd.pinned (.plain (OpenSpec.upto guardToldSpec)) guardToldUptoCard

/-- THE SECOND FORM's CARD OF 'fishkeep1.GuardRadio'. -/
def guardRadioUptoCard : Claim7 := { stood := { row := guardRadioUptoRow, standIns := [], harness := (true, "2c5f4298fed040123564a67d98974f2af11fa4bca40d92f60130d01e2b8fabc8"), looks := true }, kinds := [], alts := [], laidByText := true, laidKinds := [.data, .data, .data, .data, .sentinel, .sentinel, .pinned], laidTests := true, laidLooks := .later }
def GuardRadioUptoCardSaid : Prop := Claim7.holds Tryd.pinned (.plain (OpenSpec.upto guardRadioSpec)) guardRadioUptoCard

/-- THE SECOND FORM's CARD OF 'fishkeep1.GuardSeconds'. -/
def guardSecondsUptoCard : Claim7 := { stood := { row := guardSecondsUptoRow, standIns := [], harness := (true, "2c5f4298fed040123564a67d98974f2af11fa4bca40d92f60130d01e2b8fabc8"), looks := true }, kinds := [], alts := [], laidByText := true, laidKinds := [.data, .data, .data, .data, .sentinel, .sentinel, .pinned], laidTests := true, laidLooks := .later }
def GuardSecondsUptoCardSaid : Prop := Claim7.holds Tryd.pinned (.plain (OpenSpec.upto guardSecondsSpec)) guardSecondsUptoCard

/-- THE SECOND FORM's CARD OF 'fishkeep1.GuardStops'. -/
def guardStopsUptoCard : Claim7 := { stood := { row := guardStopsUptoRow, standIns := [], harness := (true, "2c5f4298fed040123564a67d98974f2af11fa4bca40d92f60130d01e2b8fabc8"), looks := true }, kinds := [], alts := [], laidByText := true, laidKinds := [.data, .data, .data, .data, .sentinel, .sentinel, .pinned], laidTests := true, laidLooks := .later }
def GuardStopsUptoCardSaid : Prop := Claim7.holds Tryd.pinned (.plain (OpenSpec.upto guardStopsSpec)) guardStopsUptoCard
end Rows
end Go.Proofs.YtgflagiblnkchaaDoor
