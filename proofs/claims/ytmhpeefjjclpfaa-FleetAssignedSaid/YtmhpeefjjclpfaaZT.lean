/- The table of types. Printed by a tool. -/
import Derived.Test.YtmhpeefjjclpfaaD8
import Derived.Test.YtmhpeefjjclpfaaProg
import Derived.Test.YtmhpeefjjclpfaaZP
set_option linter.unusedVariables false
set_option linter.unusedSimpArgs false
set_option maxRecDepth 100000
set_option maxHeartbeats 4000000
namespace Hd
open Go Hk Go.Proofs
abbrev S_fleet_Task.tup (x : S_fleet_Task) : Int × Int × Int × Int × Int × Int := (x.From, x.To, x.Dep, x.Arr, x.Km, x.Units)
def fS_fleet_Task : FRel S_fleet_Task := fMap S_fleet_Task.tup (fPair (fInt .i64) (fPair (fInt .i64) (fPair (fInt .i64) (fPair (fInt .i64) (fPair (fInt .i64) (fInt .i64))))))
abbrev S_fleet_Set.tup (x : S_fleet_Set) : Int × Int := (x.Home, x.Km)
def fS_fleet_Set : FRel S_fleet_Set := fMap S_fleet_Set.tup (fPair (fInt .i64) (fInt .i64))
abbrev S_fleet_Shop.tup (x : S_fleet_Shop) : Int × Int × Int := (x.Place, x.Long, x.Limit)
def fS_fleet_Shop : FRel S_fleet_Shop := fMap S_fleet_Shop.tup (fPair (fInt .i64) (fPair (fInt .i64) (fInt .i64)))
abbrev S_fleet_giver.tup (x : S_fleet_giver) : List S_fleet_Task × Int × List S_fleet_Set × S_fleet_Shop × List Int × List (List Int) × Option (List (List Int)) × Int := (x.tasks, x.turn, x.sets, x.shop, x.order, x.turns, x.best, x.least)
def fS_fleet_giver : FRel S_fleet_giver := fMap S_fleet_giver.tup (fPair (fSl (fS_fleet_Task)) (fPair (fInt .i64) (fPair (fSl (fS_fleet_Set)) (fPair fS_fleet_Shop (fPair (fSl (fInt .i64)) (fPair (fSl (fSl (fInt .i64))) (fPair (fNsl (fSl (fInt .i64))) (fInt .i64))))))))
def tT : Nat → Type
  | 0 => S_fleet_Task
  | 1 => S_fleet_Set
  | 2 => S_fleet_Shop
  | 3 => S_fleet_giver
  | _ + 4 => Unit
def tR : (i : Nat) → FRel (tT i)
  | 0 => fS_fleet_Task
  | 1 => fS_fleet_Set
  | 2 => fS_fleet_Shop
  | 3 => fS_fleet_giver
  | _ + 4 => fUnit
def tF : Nat → List Ty
  | 0 => [(.int .i64), (.int .i64), (.int .i64), (.int .i64), (.int .i64), (.int .i64)]
  | 1 => [(.int .i64), (.int .i64)]
  | 2 => [(.int .i64), (.int .i64), (.int .i64)]
  | 3 => [(.sl (.st 0)), (.int .i64), (.sl (.st 1)), (.st 2), (.sl (.int .i64)), (.sl (.sl (.int .i64))), (.nsl (.sl (.int .i64))), (.int .i64)]
  | _ + 4 => []
def tTo : (i : Nat) → tT i → Tup tT (tF i)
  | 0 => S_fleet_Task.tup
  | 1 => S_fleet_Set.tup
  | 2 => S_fleet_Shop.tup
  | 3 => S_fleet_giver.tup
  | _ + 4 => fun _ => ()
def tMk : (i : Nat) → Tup tT (tF i) → tT i
  | 0 => fun p => S_fleet_Task.mk p.1 p.2.1 p.2.2.1 p.2.2.2.1 p.2.2.2.2.1 p.2.2.2.2.2
  | 1 => fun p => S_fleet_Set.mk p.1 p.2
  | 2 => fun p => S_fleet_Shop.mk p.1 p.2.1 p.2.2
  | 3 => fun p => S_fleet_giver.mk p.1 p.2.1 p.2.2.1 p.2.2.2.1 p.2.2.2.2.1 p.2.2.2.2.2.1 p.2.2.2.2.2.2.1 p.2.2.2.2.2.2.2
  | _ + 4 => fun _ => ()
theorem tOk : ∀ i f cs x, (tR i).p f cs x ↔ (fTup tR (tF i)).p f cs (tTo i x)
  | 0, _, _, _ => Iff.rfl
  | 1, _, _, _ => Iff.rfl
  | 2, _, _, _ => Iff.rfl
  | 3, _, _, _ => Iff.rfl
  | _ + 4, _, _, _ => Iff.rfl
theorem tTm : ∀ i h, tTo i (tMk i h) = h
  | 0, _ => rfl
  | 1, _ => rfl
  | 2, _ => rfl
  | 3, _ => rfl
  | _ + 4, _ => rfl
def tab : Tab := ⟨tT, tR, tF, tTo, tMk, tOk, tTm⟩
def tt : List (TI tab) := [
  ⟨3, .int .i64, 1, 8, false, [.int .i64 0]⟩,
  ⟨22, .slice 36 (some (.st 0)), 1, 24, false, [.nils]⟩,
  ⟨24, .int .i64, 1, 8, false, [.int .i64 0]⟩,
  ⟨26, .slice 45 (some (.sl (.int .i64))), 1, 24, false, [.nils]⟩,
  ⟨36, .struct [(0, 1, 3), (1, 1, 3), (2, 1, 3), (3, 1, 3), (4, 1, 3), (5, 1, 3)], 6, 48, true, [.int .i64 0, .int .i64 0, .int .i64 0, .int .i64 0, .int .i64 0, .int .i64 0]⟩,
  ⟨38, .slice 47 (some (.st 1)), 1, 24, false, [.nils]⟩,
  ⟨40, .struct [(0, 1, 3), (1, 1, 3), (2, 1, 3)], 3, 24, true, [.int .i64 0, .int .i64 0, .int .i64 0]⟩,
  ⟨45, .slice 3 (some (.int .i64)), 1, 24, false, [.nils]⟩,
  ⟨47, .struct [(0, 1, 3), (1, 1, 3)], 2, 16, true, [.int .i64 0, .int .i64 0]⟩,
  ⟨133, .struct [(0, 1, 22), (1, 1, 3), (2, 1, 38), (3, 3, 40), (6, 1, 45), (7, 1, 26), (8, 1, 26), (9, 1, 3)], 10, 160, true, [.nils, .int .i64 0, .nils, .int .i64 0, .int .i64 0, .int .i64 0, .nils, .nils, .nils, .int .i64 0]⟩,
  ⟨167, .int .u64, 1, 8, false, [.int .u64 0]⟩]
theorem ttok : ttOk Try.prog tt = true := by kernel_rfl
theorem mixed : Try.prog.follows .mixedOrders = true := by kernel_rfl
end Hd
