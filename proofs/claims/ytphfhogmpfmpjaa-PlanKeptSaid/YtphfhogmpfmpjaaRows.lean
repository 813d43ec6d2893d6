/-
  No cell of these rows narrows 'for every input' (looked for: loops, veiled, ifaces, maps, wideKeys, modest, calm, conditions, laid).
  DERIVED. THE GIVEN ROWS OF THIS SEAT. 3 by the template 'for every input the law returns true; each argument reads behind the call as it read before'; 0 by the template 'total and deterministic' (their statements: YtphfhogmpfmpjaaTotals.lean).
  GIVEN WITH THE SEED: the statements are not yours to turn. If you find one false, say at which input.
  Laid BY PROGRAM, IN A SANDBOX (cutbox-rows.mjs): the forced cells as the released guide's own fill.sh prints them over the translation e6e46fb92a765f95… (all of the seat's roots in one cut). By AI agents, Wed Nov 11 2026. No macro, syntax, notation, axiom, sorry.
-/
import Derived.Test.YtphfhogmpfmpjaaChecked
import GoSem.Claim
import GoSem.ClaimJoined
import GoSem.ClaimMapViews
import Derived.JoinedTies
import Derived.KernelRfl
namespace Go.Proofs.Ytphfhogmpfmpjaa
/- THE CELL 'sum', in the pinned program and in every row, IS THE sha256 OF THE DUMP (.gsa) THAT YtphfhogmpfmpjaaProg.lean LOADS. Nothing in Lean hashes anything: it is a label: what it is worth is what the hold of that sum in a sandbox is worth. -/
noncomputable def Try.pinned : Pinned := { name := "ytphfhogmpfmpjaa", sum := "e6e46fb92a765f95bc6f7be26590cae85df58b0ca47ec271d8b0441dd312b214", checked := Try.checked }
namespace Rows
def none {H : Type} : Left H := { results := [], args := [] }

/-- 'fishkeep2.PlanTurned': WHATEVER THE INPUT: true; the input reads as it did. -/
def planTurnedSpec : ChangeSpec := { name := "planTurned", fn := fun _ => fun
  | [d] => { results := [.lit (.bool true)], args := [d] }
  | _ => none }
def planTurnedRow : OpenClaim := { program := "ytphfhogmpfmpjaa", sum := "e6e46fb92a765f95bc6f7be26590cae85df58b0ca47ec271d8b0441dd312b214", func := "fishplate/fishkeep2.PlanTurned", spec := "planTurned", unfollowed := true, recurses := true, apart := false }
def PlanTurnedSaid : Prop := planTurnedRow.holds Try.pinned (OpenSpec.ofChange planTurnedSpec)

/-- ITS FALSE NEIGHBOUR: 'it returns false'. Refute it at one input. -/
def planTurnedWrong : ChangeSpec := { name := "planTurned", fn := fun _ => fun
  | [d] => { results := [.lit (.bool false)], args := [d] }
  | _ => none }
def PlanTurnedWrongFalsely : Prop := planTurnedRow.holds Try.pinned (OpenSpec.ofChange planTurnedWrong)

/-- 'fishkeep2.PlanCore': WHATEVER THE INPUT: true; the input reads as it did. -/
def planCoreSpec : ChangeSpec := { name := "planCore", fn := fun _ => fun
  | [d] => { results := [.lit (.bool true)], args := [d] }
  | _ => none }
def planCoreRow : OpenClaim := { program := "ytphfhogmpfmpjaa", sum := "e6e46fb92a765f95bc6f7be26590cae85df58b0ca47ec271d8b0441dd312b214", func := "fishplate/fishkeep2.PlanCore", spec := "planCore", unfollowed := true, recurses := true, apart := false }
def PlanCoreSaid : Prop := planCoreRow.holds Try.pinned (OpenSpec.ofChange planCoreSpec)

/-- ITS FALSE NEIGHBOUR: 'it returns false'. Refute it at one input. -/
def planCoreWrong : ChangeSpec := { name := "planCore", fn := fun _ => fun
  | [d] => { results := [.lit (.bool false)], args := [d] }
  | _ => none }
def PlanCoreWrongFalsely : Prop := planCoreRow.holds Try.pinned (OpenSpec.ofChange planCoreWrong)

/-- 'fishkeep2.PlanKept': WHATEVER THE INPUT: true; the input reads as it did. -/
def planKeptSpec : ChangeSpec := { name := "planKept", fn := fun _ => fun
  | [d1, d2, d3] => { results := [.lit (.bool true)], args := [d1, d2, d3] }
  | _ => none }
def planKeptRow : OpenClaim := { program := "ytphfhogmpfmpjaa", sum := "e6e46fb92a765f95bc6f7be26590cae85df58b0ca47ec271d8b0441dd312b214", func := "fishplate/fishkeep2.PlanKept", spec := "planKept", unfollowed := true, recurses := true, apart := false }
def PlanKeptSaid : Prop := planKeptRow.holds Try.pinned (OpenSpec.ofChange planKeptSpec)

/-- ITS FALSE NEIGHBOUR: 'it returns false'. Refute it at one input. -/
def planKeptWrong : ChangeSpec := { name := "planKept", fn := fun _ => fun
  | [d1, d2, d3] => { results := [.lit (.bool false)], args := [d1, d2, d3] }
  | _ => none }
def PlanKeptWrongFalsely : Prop := planKeptRow.holds Try.pinned (OpenSpec.ofChange planKeptWrong)

/- THE SECOND FORM. 'bulk': how many values and letters a reading holds, each counted each time it is reached (what is shared counts as often as it is met; a slice's spare places count too). A statement '..UptoSaid' is the law's where the arguments, and the package variables that the reading takes, are together of bulk at most 1048576: NARROWER than '..Said'. Prove '..Said' where nothing that the law and all that it calls make is longer than what came in: it says more and counts as full. Else prove '..UptoSaid'. A law counts once. -/
mutual
def uptoBulk {H : Type} : DataW H → Nat
  | .lit (.string bytes) => bytes.length + 1
  | .lit _ => 1
  | .nil => 1
  | .ptr d => uptoBulk d + 1
  | .slice elems spare => uptoBulkAll elems + uptoBulkAll spare + 1
  | .agg parts => uptoBulkAll parts + 1
  | .iface _ d => uptoBulk d + 1
  | .map entries => uptoBulkEntries entries + 1
  | .held _ => 1
def uptoBulkAll {H : Type} : List (DataW H) → Nat
  | [] => 0
  | d :: r => uptoBulk d + uptoBulkAll r
def uptoBulkEntries {H : Type} : List (Lit × DataW H) → Nat
  | [] => 0
  | x :: r => uptoBulkEntry x + uptoBulkEntries r
def uptoBulkEntry {H : Type} : Lit × DataW H → Nat
  | (.string bytes, d) => bytes.length + uptoBulk d + 1
  | (_, d) => uptoBulk d + 1
 end
def uptoSmall : (H : Type) → List (DataW H) → Bool := fun _ ds => decide (uptoBulkAll ds ≤ 1048576)
def OpenSpec.upto (s : _root_.Go.ChangeSpec) : _root_.Go.OpenSpec := { _root_.Go.OpenSpec.ofChange s with cond := some uptoSmall }

/-- 'fishkeep2.PlanTurned', WHERE WHAT IT READS IS OF BULK AT MOST 1048576: true; the input reads as it did. -/
def planTurnedUptoRow : OpenClaim := { program := "ytphfhogmpfmpjaa", sum := "e6e46fb92a765f95bc6f7be26590cae85df58b0ca47ec271d8b0441dd312b214", func := "fishplate/fishkeep2.PlanTurned", spec := "planTurned", unfollowed := true, recurses := true, apart := false, narrowed := true }
def PlanTurnedUptoSaid : Prop := planTurnedUptoRow.holds Try.pinned (OpenSpec.upto planTurnedSpec)

/-- 'fishkeep2.PlanCore', WHERE WHAT IT READS IS OF BULK AT MOST 1048576: true; the input reads as it did. -/
def planCoreUptoRow : OpenClaim := { program := "ytphfhogmpfmpjaa", sum := "e6e46fb92a765f95bc6f7be26590cae85df58b0ca47ec271d8b0441dd312b214", func := "fishplate/fishkeep2.PlanCore", spec := "planCore", unfollowed := true, recurses := true, apart := false, narrowed := true }
def PlanCoreUptoSaid : Prop := planCoreUptoRow.holds Try.pinned (OpenSpec.upto planCoreSpec)

/-- 'fishkeep2.PlanKept', WHERE WHAT IT READS IS OF BULK AT MOST 1048576: true; the input reads as it did. -/
def planKeptUptoRow : OpenClaim := { program := "ytphfhogmpfmpjaa", sum := "e6e46fb92a765f95bc6f7be26590cae85df58b0ca47ec271d8b0441dd312b214", func := "fishplate/fishkeep2.PlanKept", spec := "planKept", unfollowed := true, recurses := true, apart := false, narrowed := true }
def PlanKeptUptoSaid : Prop := planKeptUptoRow.holds Try.pinned (OpenSpec.upto planKeptSpec)

end Rows
end Go.Proofs.Ytphfhogmpfmpjaa
