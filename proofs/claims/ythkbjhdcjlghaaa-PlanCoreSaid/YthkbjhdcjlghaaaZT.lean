/- The table of types. Printed by a tool. -/
import Derived.Test.YthkbjhdcjlghaaaD8
import Derived.Test.YthkbjhdcjlghaaaProg
import Derived.Test.YthkbjhdcjlghaaaZP
set_option linter.unusedVariables false
set_option linter.unusedSimpArgs false
set_option maxRecDepth 100000
set_option maxHeartbeats 4000000
namespace Hd
open Go Hk Go.Proofs
abbrev S_plan_Rule.tup (x : S_plan_Rule) : Int × Int × Int × Int × Int := (x.From, x.To, x.Min, x.Max, x.Weight)
def fS_plan_Rule : FRel S_plan_Rule := fMap S_plan_Rule.tup (fPair (fInt .i64) (fPair (fInt .i64) (fPair (fInt .i64) (fPair (fInt .i64) (fInt .i64)))))
abbrev S_plan_Periodic.tup (x : S_plan_Periodic) : Int × Int × List S_plan_Rule := (x.Period, x.Events, x.Rules)
def fS_plan_Periodic : FRel S_plan_Periodic := fMap S_plan_Periodic.tup (fPair (fInt .i64) (fPair (fInt .i64) (fSl (fS_plan_Rule))))
def tT : Nat → Type
  | 0 => S_plan_Rule
  | 1 => S_plan_Periodic
  | _ + 2 => Unit
def tR : (i : Nat) → FRel (tT i)
  | 0 => fS_plan_Rule
  | 1 => fS_plan_Periodic
  | _ + 2 => fUnit
def tF : Nat → List Ty
  | 0 => [(.int .i64), (.int .i64), (.int .i64), (.int .i64), (.int .i64)]
  | 1 => [(.int .i64), (.int .i64), (.sl (.st 0))]
  | _ + 2 => []
def tTo : (i : Nat) → tT i → Tup tT (tF i)
  | 0 => S_plan_Rule.tup
  | 1 => S_plan_Periodic.tup
  | _ + 2 => fun _ => ()
def tMk : (i : Nat) → Tup tT (tF i) → tT i
  | 0 => fun p => S_plan_Rule.mk p.1 p.2.1 p.2.2.1 p.2.2.2.1 p.2.2.2.2
  | 1 => fun p => S_plan_Periodic.mk p.1 p.2.1 p.2.2
  | _ + 2 => fun _ => ()
theorem tOk : ∀ i f cs x, (tR i).p f cs x ↔ (fTup tR (tF i)).p f cs (tTo i x)
  | 0, _, _, _ => Iff.rfl
  | 1, _, _, _ => Iff.rfl
  | _ + 2, _, _, _ => Iff.rfl
theorem tTm : ∀ i h, tTo i (tMk i h) = h
  | 0, _ => rfl
  | 1, _ => rfl
  | _ + 2, _ => rfl
def tab : Tab := ⟨tT, tR, tF, tTo, tMk, tOk, tTm, fun _ => True, fun _ _ _ _ => trivial⟩
def tt : List (TI tab) := [
  ⟨3, .int .i64, 1, 8, false, [.int .i64 0]⟩,
  ⟨4, .bool, 1, 1, false, [.bool false]⟩,
  ⟨22, .slice 3 (some (.int .i64)), 1, 24, false, [.nils]⟩,
  ⟨27, .int .i64, 1, 8, false, [.int .i64 0]⟩,
  ⟨71, .slice 78 (some (.st 0)), 1, 24, false, [.nils]⟩,
  ⟨73, .struct [(0, 1, 3), (1, 1, 3), (2, 1, 71)] [], 3, 40, true, [.int .i64 0, .int .i64 0, .nils]⟩,
  ⟨78, .struct [(0, 1, 3), (1, 1, 3), (2, 1, 3), (3, 1, 3), (4, 1, 3)] [], 5, 40, true, [.int .i64 0, .int .i64 0, .int .i64 0, .int .i64 0, .int .i64 0]⟩,
  ⟨131, .slice 4 (some .bool), 1, 24, false, [.nils]⟩,
  ⟨157, .int .u64, 1, 8, false, [.int .u64 0]⟩,
  ⟨174, .array 8 3, 8, 64, true, [.int .i64 0, .int .i64 0, .int .i64 0, .int .i64 0, .int .i64 0, .int .i64 0, .int .i64 0, .int .i64 0]⟩,
  ⟨175, .other, 1, 8, false, [.nilf]⟩,
  ⟨176, .other, 1, 8, false, [.nilf]⟩,
  ⟨178, .struct [(0, 3, 73), (3, 1, 176), (4, 1, 175), (5, 1, 22), (6, 1, 131)] [], 7, 104, true, [.int .i64 0, .int .i64 0, .nils, .nilf, .nilf, .nils, .nils]⟩,
  ⟨182, .slice 71 (some (.sl (.st 0))), 1, 24, false, [.nils]⟩,
  ⟨200, .int .u64, 1, 8, false, [.int .u64 0]⟩,
  ⟨213, .array 8 174, 64, 512, true, [.int .i64 0, .int .i64 0, .int .i64 0, .int .i64 0, .int .i64 0, .int .i64 0, .int .i64 0, .int .i64 0, .int .i64 0, .int .i64 0, .int .i64 0, .int .i64 0, .int .i64 0, .int .i64 0, .int .i64 0, .int .i64 0, .int .i64 0, .int .i64 0, .int .i64 0, .int .i64 0, .int .i64 0, .int .i64 0, .int .i64 0, .int .i64 0, .int .i64 0, .int .i64 0, .int .i64 0, .int .i64 0, .int .i64 0, .int .i64 0, .int .i64 0, .int .i64 0, .int .i64 0, .int .i64 0, .int .i64 0, .int .i64 0, .int .i64 0, .int .i64 0, .int .i64 0, .int .i64 0, .int .i64 0, .int .i64 0, .int .i64 0, .int .i64 0, .int .i64 0, .int .i64 0, .int .i64 0, .int .i64 0, .int .i64 0, .int .i64 0, .int .i64 0, .int .i64 0, .int .i64 0, .int .i64 0, .int .i64 0, .int .i64 0, .int .i64 0, .int .i64 0, .int .i64 0, .int .i64 0, .int .i64 0, .int .i64 0, .int .i64 0, .int .i64 0]⟩]
theorem ttok : ttOk Try.prog tt = true := by kernel_rfl
theorem mixed : Try.prog.follows .mixedOrders = true := by kernel_rfl
end Hd
