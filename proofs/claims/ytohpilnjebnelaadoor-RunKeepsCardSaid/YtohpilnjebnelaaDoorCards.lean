/-
  DERIVED. GIVEN WITH THE SEED: THE CARDS: each row of YtohpilnjebnelaaDoorRows.lean that lists a variable, with what it lists TIED to the program's text (the seventh form; the later family's looks); each row that meets fmt, with fmt's text TOLD by the authors' own Lean function (tested against real Go, not proved from fmt's source: count such statements apart). THE CARD IS WHAT COUNTS. Prove the row's statement (the work); the ties are given (YtohpilnjebnelaaDoorTie.lean); close each card by the builder's one call (the guide's Derived/Test/ToyasCard.lean, 'card_holds'). Laid BY PROGRAM, IN A SANDBOX (cutbox-door.mjs). By AI agents, Wed Nov 11 2026. No macro, syntax, notation, axiom, sorry.
-/
import Derived.Test.YtohpilnjebnelaaDoorRows
import GoSem.ClaimSeven
namespace Go.Proofs.YtohpilnjebnelaaDoor
namespace Rows

/-- THE TIED CARD OF 'fishkeep1.RunStands'. -/
def runStandsCard : Claim7 := { stood := { row := runStandsRow, standIns := [], harness := (true, "7c58d727ffb5e7b0d03aad5744ba21dd0618801c1c2cacf51a3e5ff38e52408f"), looks := true }, kinds := [], alts := [], laidByText := true, laidKinds := [.data, .data, .data, .data, .sentinel, .sentinel, .pinned], laidTests := true, laidLooks := .later }
def RunStandsCardSaid : Prop := Claim7.holds Tryd.pinned (.plain (OpenSpec.ofChange runStandsSpec)) runStandsCard

/-- THE TIED CARD OF 'fishkeep1.RunApart'. -/
def runApartCard : Claim7 := { stood := { row := runApartRow, standIns := [], harness := (true, "7c58d727ffb5e7b0d03aad5744ba21dd0618801c1c2cacf51a3e5ff38e52408f"), looks := true }, kinds := [], alts := [], laidByText := true, laidKinds := [.data, .data, .data, .data, .sentinel, .sentinel, .pinned], laidTests := true, laidLooks := .later }
def RunApartCardSaid : Prop := Claim7.holds Tryd.pinned (.plain (OpenSpec.ofChange runApartSpec)) runApartCard

/-- THE TIED CARD OF 'fishkeep1.RunAllowed'. -/
def runAllowedCard : Claim7 := { stood := { row := runAllowedRow, standIns := [], harness := (true, "7c58d727ffb5e7b0d03aad5744ba21dd0618801c1c2cacf51a3e5ff38e52408f"), looks := true }, kinds := [], alts := [], laidByText := true, laidKinds := [.data, .data, .data, .data, .sentinel, .sentinel, .pinned], laidTests := true, laidLooks := .later }
def RunAllowedCardSaid : Prop := Claim7.holds Tryd.pinned (.plain (OpenSpec.ofChange runAllowedSpec)) runAllowedCard

/-- THE TIED CARD OF 'fishkeep1.RunSmooth'. -/
def runSmoothCard : Claim7 := { stood := { row := runSmoothRow, standIns := [], harness := (true, "7c58d727ffb5e7b0d03aad5744ba21dd0618801c1c2cacf51a3e5ff38e52408f"), looks := true }, kinds := [], alts := [], laidByText := true, laidKinds := [.data, .data, .data, .data, .sentinel, .sentinel, .pinned], laidTests := true, laidLooks := .later }
def RunSmoothCardSaid : Prop := Claim7.holds Tryd.pinned (.plain (OpenSpec.ofChange runSmoothSpec)) runSmoothCard

/-- THE TIED CARD OF 'fishkeep1.RunKeeps'. -/
def runKeepsCard : Claim7 := { stood := { row := runKeepsRow, standIns := [], harness := (true, "7c58d727ffb5e7b0d03aad5744ba21dd0618801c1c2cacf51a3e5ff38e52408f"), looks := true }, kinds := [], alts := [], laidByText := true, laidKinds := [.data, .data, .data, .data, .sentinel, .sentinel, .pinned], laidTests := true, laidLooks := .later }
def RunKeepsCardSaid : Prop := Claim7.holds Tryd.pinned (.plain (OpenSpec.ofChange runKeepsSpec)) runKeepsCard

/-- THE TIED CARD OF 'fishkeep1.RunSaved'. -/
def runSavedCard : Claim7 := { stood := { row := runSavedRow, standIns := [], harness := (true, "7c58d727ffb5e7b0d03aad5744ba21dd0618801c1c2cacf51a3e5ff38e52408f"), looks := true }, kinds := [], alts := [], laidByText := true, laidKinds := [.data, .data, .data, .data, .sentinel, .sentinel, .pinned], laidTests := true, laidLooks := .later }
def RunSavedCardSaid : Prop := Claim7.holds Tryd.pinned (.plain (OpenSpec.ofChange runSavedSpec)) runSavedCard

/-- THE SECOND FORM's CARD OF 'fishkeep1.RunStands'. -/
def runStandsUptoCard : Claim7 := { stood := { row := runStandsUptoRow, standIns := [], harness := (true, "7c58d727ffb5e7b0d03aad5744ba21dd0618801c1c2cacf51a3e5ff38e52408f"), looks := true }, kinds := [], alts := [], laidByText := true, laidKinds := [.data, .data, .data, .data, .sentinel, .sentinel, .pinned], laidTests := true, laidLooks := .later }
def RunStandsUptoCardSaid : Prop := Claim7.holds Tryd.pinned (.plain (OpenSpec.upto runStandsSpec)) runStandsUptoCard

/-- THE SECOND FORM's CARD OF 'fishkeep1.RunApart'. -/
def runApartUptoCard : Claim7 := { stood := { row := runApartUptoRow, standIns := [], harness := (true, "7c58d727ffb5e7b0d03aad5744ba21dd0618801c1c2cacf51a3e5ff38e52408f"), looks := true }, kinds := [], alts := [], laidByText := true, laidKinds := [.data, .data, .data, .data, .sentinel, .sentinel, .pinned], laidTests := true, laidLooks := .later }
def RunApartUptoCardSaid : Prop := Claim7.holds Tryd.pinned (.plain (OpenSpec.upto runApartSpec)) runApartUptoCard

/-- THE SECOND FORM's CARD OF 'fishkeep1.RunAllowed'. -/
def runAllowedUptoCard : Claim7 := { stood := { row := runAllowedUptoRow, standIns := [], harness := (true, "7c58d727ffb5e7b0d03aad5744ba21dd0618801c1c2cacf51a3e5ff38e52408f"), looks := true }, kinds := [], alts := [], laidByText := true, laidKinds := [.data, .data, .data, .data, .sentinel, .sentinel, .pinned], laidTests := true, laidLooks := .later }
def RunAllowedUptoCardSaid : Prop := Claim7.holds Tryd.pinned (.plain (OpenSpec.upto runAllowedSpec)) runAllowedUptoCard

/-- THE SECOND FORM's CARD OF 'fishkeep1.RunSmooth'. -/
def runSmoothUptoCard : Claim7 := { stood := { row := runSmoothUptoRow, standIns := [], harness := (true, "7c58d727ffb5e7b0d03aad5744ba21dd0618801c1c2cacf51a3e5ff38e52408f"), looks := true }, kinds := [], alts := [], laidByText := true, laidKinds := [.data, .data, .data, .data, .sentinel, .sentinel, .pinned], laidTests := true, laidLooks := .later }
def RunSmoothUptoCardSaid : Prop := Claim7.holds Tryd.pinned (.plain (OpenSpec.upto runSmoothSpec)) runSmoothUptoCard

/-- THE SECOND FORM's CARD OF 'fishkeep1.RunKeeps'. -/
def runKeepsUptoCard : Claim7 := { stood := { row := runKeepsUptoRow, standIns := [], harness := (true, "7c58d727ffb5e7b0d03aad5744ba21dd0618801c1c2cacf51a3e5ff38e52408f"), looks := true }, kinds := [], alts := [], laidByText := true, laidKinds := [.data, .data, .data, .data, .sentinel, .sentinel, .pinned], laidTests := true, laidLooks := .later }
def RunKeepsUptoCardSaid : Prop := Claim7.holds Tryd.pinned (.plain (OpenSpec.upto runKeepsSpec)) runKeepsUptoCard

/-- THE SECOND FORM's CARD OF 'fishkeep1.RunSaved'. -/
def runSavedUptoCard : Claim7 := { stood := { row := runSavedUptoRow, standIns := [], harness := (true, "7c58d727ffb5e7b0d03aad5744ba21dd0618801c1c2cacf51a3e5ff38e52408f"), looks := true }, kinds := [], alts := [], laidByText := true, laidKinds := [.data, .data, .data, .data, .sentinel, .sentinel, .pinned], laidTests := true, laidLooks := .later }
def RunSavedUptoCardSaid : Prop := Claim7.holds Tryd.pinned (.plain (OpenSpec.upto runSavedSpec)) runSavedUptoCard
end Rows
end Go.Proofs.YtohpilnjebnelaaDoor
