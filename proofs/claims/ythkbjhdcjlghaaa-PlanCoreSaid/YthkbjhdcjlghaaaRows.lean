/-
  No cell of these rows narrows 'for every input' (looked for: loops, veiled, ifaces, maps, wideKeys, modest, calm, conditions, laid).
  DERIVED. THE GIVEN ROWS OF THIS SEAT. 4 by the template 'for every input the law returns true; each argument reads behind the call as it read before'; 0 by the template 'total and deterministic' (their statements: YthkbjhdcjlghaaaTotals.lean).
  GIVEN WITH THE SEED: the statements are not yours to turn. If you find one false, say at which input.
  Laid BY PROGRAM, IN A SANDBOX (cutbox-rows.mjs): the forced cells as the released guide's own fill.sh prints them over the translation d033425b3a4bfc07… (all of the seat's roots in one cut). By AI agents, Wed Nov 11 2026. No macro, syntax, notation, axiom, sorry.
-/
import Derived.Test.YthkbjhdcjlghaaaChecked
import GoSem.Claim
import GoSem.ClaimJoined
import GoSem.ClaimMapViews
import Derived.JoinedTies
import Derived.KernelRfl
namespace Go.Proofs.Ythkbjhdcjlghaaa
/- THE CELL 'sum', in the pinned program and in every row, IS THE sha256 OF THE DUMP (.gsa) THAT YthkbjhdcjlghaaaProg.lean LOADS. Nothing in Lean hashes anything: it is a label: what it is worth is what the hold of that sum in a sandbox is worth. -/
noncomputable def Try.pinned : Pinned := { name := "ythkbjhdcjlghaaa", sum := "d033425b3a4bfc078014a27fa823d10031c6f2c6f355bc425219ac3b8feb3ca1", checked := Try.checked }
namespace Rows
def none {H : Type} : Left H := { results := [], args := [] }

/-- 'fishkeep2.FleetShunted': WHATEVER THE INPUT: true; the input reads as it did. -/
def fleetShuntedSpec : ChangeSpec := { name := "fleetShunted", fn := fun _ => fun
  | [d1, d2, d3] => { results := [.lit (.bool true)], args := [d1, d2, d3] }
  | _ => none }
def fleetShuntedRow : OpenClaim := { program := "ythkbjhdcjlghaaa", sum := "d033425b3a4bfc078014a27fa823d10031c6f2c6f355bc425219ac3b8feb3ca1", func := "fishplate/fishkeep2.FleetShunted", spec := "fleetShunted", unfollowed := true, recurses := true, plainKeys := false, apart := false }
def FleetShuntedSaid : Prop := fleetShuntedRow.holds Try.pinned (OpenSpec.ofChange fleetShuntedSpec)

/-- ITS FALSE NEIGHBOUR: 'it returns false'. Refute it at one input. -/
def fleetShuntedWrong : ChangeSpec := { name := "fleetShunted", fn := fun _ => fun
  | [d1, d2, d3] => { results := [.lit (.bool false)], args := [d1, d2, d3] }
  | _ => none }
def FleetShuntedWrongFalsely : Prop := fleetShuntedRow.holds Try.pinned (OpenSpec.ofChange fleetShuntedWrong)

/-- 'fishkeep2.FleetFair': WHATEVER THE INPUT: true; the input reads as it did. -/
def fleetFairSpec : ChangeSpec := { name := "fleetFair", fn := fun _ => fun
  | [d1, d2, d3, d4] => { results := [.lit (.bool true)], args := [d1, d2, d3, d4] }
  | _ => none }
def fleetFairRow : OpenClaim := { program := "ythkbjhdcjlghaaa", sum := "d033425b3a4bfc078014a27fa823d10031c6f2c6f355bc425219ac3b8feb3ca1", func := "fishplate/fishkeep2.FleetFair", spec := "fleetFair", unfollowed := true, recurses := true, plainKeys := false, apart := false }
def FleetFairSaid : Prop := fleetFairRow.holds Try.pinned (OpenSpec.ofChange fleetFairSpec)

/-- ITS FALSE NEIGHBOUR: 'it returns false'. Refute it at one input. -/
def fleetFairWrong : ChangeSpec := { name := "fleetFair", fn := fun _ => fun
  | [d1, d2, d3, d4] => { results := [.lit (.bool false)], args := [d1, d2, d3, d4] }
  | _ => none }
def FleetFairWrongFalsely : Prop := fleetFairRow.holds Try.pinned (OpenSpec.ofChange fleetFairWrong)

/-- 'fishkeep2.MendDies': WHATEVER THE INPUT: true; the input reads as it did. -/
def mendDiesSpec : ChangeSpec := { name := "mendDies", fn := fun _ => fun
  | [d1, d2] => { results := [.lit (.bool true)], args := [d1, d2] }
  | _ => none }
def mendDiesRow : OpenClaim := { program := "ythkbjhdcjlghaaa", sum := "d033425b3a4bfc078014a27fa823d10031c6f2c6f355bc425219ac3b8feb3ca1", func := "fishplate/fishkeep2.MendDies", spec := "mendDies", unfollowed := true, recurses := true, plainKeys := false, apart := false }
def MendDiesSaid : Prop := mendDiesRow.holds Try.pinned (OpenSpec.ofChange mendDiesSpec)

/-- ITS FALSE NEIGHBOUR: 'it returns false'. Refute it at one input. -/
def mendDiesWrong : ChangeSpec := { name := "mendDies", fn := fun _ => fun
  | [d1, d2] => { results := [.lit (.bool false)], args := [d1, d2] }
  | _ => none }
def MendDiesWrongFalsely : Prop := mendDiesRow.holds Try.pinned (OpenSpec.ofChange mendDiesWrong)

/-- 'fishkeep2.PlanCore': WHATEVER THE INPUT: true; the input reads as it did. -/
def planCoreSpec : ChangeSpec := { name := "planCore", fn := fun _ => fun
  | [d] => { results := [.lit (.bool true)], args := [d] }
  | _ => none }
def planCoreRow : OpenClaim := { program := "ythkbjhdcjlghaaa", sum := "d033425b3a4bfc078014a27fa823d10031c6f2c6f355bc425219ac3b8feb3ca1", func := "fishplate/fishkeep2.PlanCore", spec := "planCore", unfollowed := true, recurses := true, plainKeys := false, apart := false }
def PlanCoreSaid : Prop := planCoreRow.holds Try.pinned (OpenSpec.ofChange planCoreSpec)

/-- ITS FALSE NEIGHBOUR: 'it returns false'. Refute it at one input. -/
def planCoreWrong : ChangeSpec := { name := "planCore", fn := fun _ => fun
  | [d] => { results := [.lit (.bool false)], args := [d] }
  | _ => none }
def PlanCoreWrongFalsely : Prop := planCoreRow.holds Try.pinned (OpenSpec.ofChange planCoreWrong)

/- THE SECOND FORM. 'bulk': how many values and letters a reading holds, each counted each time it is reached (what is shared counts as often as it is met; a slice's spare places count too). A statement '..UptoSaid' is the law's where the arguments, and the package variables that the reading takes, are together of bulk at most 1048576: NARROWER than '..Said'. Prove '..Said' where nothing that the law and all that it calls make is longer than what came in: it says more and counts as full. Else prove '..UptoSaid'. A law counts once. -/
mutual
def uptoBulk {H : Type} : DataW H → Nat
  | .lit (.string bytes) => bytes.length + 1
  | .lit _ => 1
  | .nil => 1
  | .ptr d => uptoBulk d + 1
  | .slice elems spare => uptoBulkAll elems + uptoBulkAll spare + 1
  | .agg parts => uptoBulkAll parts + 1
  | .iface _ d => uptoBulk d + 1
  | .map entries => uptoBulkEntries entries + 1
  | .held _ => 1
def uptoBulkAll {H : Type} : List (DataW H) → Nat
  | [] => 0
  | d :: r => uptoBulk d + uptoBulkAll r
def uptoBulkEntries {H : Type} : List (Lit × DataW H) → Nat
  | [] => 0
  | x :: r => uptoBulkEntry x + uptoBulkEntries r
def uptoBulkEntry {H : Type} : Lit × DataW H → Nat
  | (.string bytes, d) => bytes.length + uptoBulk d + 1
  | (_, d) => uptoBulk d + 1
 end
def uptoSmall : (H : Type) → List (DataW H) → Bool := fun _ ds => decide (uptoBulkAll ds ≤ 1048576)
def OpenSpec.upto (s : _root_.Go.ChangeSpec) : _root_.Go.OpenSpec := { _root_.Go.OpenSpec.ofChange s with cond := some uptoSmall }

/-- 'fishkeep2.FleetShunted', WHERE WHAT IT READS IS OF BULK AT MOST 1048576: true; the input reads as it did. -/
def fleetShuntedUptoRow : OpenClaim := { program := "ythkbjhdcjlghaaa", sum := "d033425b3a4bfc078014a27fa823d10031c6f2c6f355bc425219ac3b8feb3ca1", func := "fishplate/fishkeep2.FleetShunted", spec := "fleetShunted", unfollowed := true, recurses := true, plainKeys := false, apart := false, narrowed := true }
def FleetShuntedUptoSaid : Prop := fleetShuntedUptoRow.holds Try.pinned (OpenSpec.upto fleetShuntedSpec)

/-- 'fishkeep2.FleetFair', WHERE WHAT IT READS IS OF BULK AT MOST 1048576: true; the input reads as it did. -/
def fleetFairUptoRow : OpenClaim := { program := "ythkbjhdcjlghaaa", sum := "d033425b3a4bfc078014a27fa823d10031c6f2c6f355bc425219ac3b8feb3ca1", func := "fishplate/fishkeep2.FleetFair", spec := "fleetFair", unfollowed := true, recurses := true, plainKeys := false, apart := false, narrowed := true }
def FleetFairUptoSaid : Prop := fleetFairUptoRow.holds Try.pinned (OpenSpec.upto fleetFairSpec)

/-- 'fishkeep2.MendDies', WHERE WHAT IT READS IS OF BULK AT MOST 1048576: true; the input reads as it did. -/
def mendDiesUptoRow : OpenClaim := { program := "ythkbjhdcjlghaaa", sum := "d033425b3a4bfc078014a27fa823d10031c6f2c6f355bc425219ac3b8feb3ca1", func := "fishplate/fishkeep2.MendDies", spec := "mendDies", unfollowed := true, recurses := true, plainKeys := false, apart := false, narrowed := true }
def MendDiesUptoSaid : Prop := mendDiesUptoRow.holds Try.pinned (OpenSpec.upto mendDiesSpec)

/-- 'fishkeep2.PlanCore', WHERE WHAT IT READS IS OF BULK AT MOST 1048576: true; the input reads as it did. -/
def planCoreUptoRow : OpenClaim := { program := "ythkbjhdcjlghaaa", sum := "d033425b3a4bfc078014a27fa823d10031c6f2c6f355bc425219ac3b8feb3ca1", func := "fishplate/fishkeep2.PlanCore", spec := "planCore", unfollowed := true, recurses := true, plainKeys := false, apart := false, narrowed := true }
def PlanCoreUptoSaid : Prop := planCoreUptoRow.holds Try.pinned (OpenSpec.upto planCoreSpec)

end Rows
end Go.Proofs.Ythkbjhdcjlghaaa
