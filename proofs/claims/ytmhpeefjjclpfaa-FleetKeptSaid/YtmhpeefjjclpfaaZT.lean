/- The table of types. Printed by a tool. -/
import Derived.Test.YtmhpeefjjclpfaaD8
import Derived.Test.YtmhpeefjjclpfaaProg
import Derived.Test.YtmhpeefjjclpfaaZP
set_option linter.unusedVariables false
set_option linter.unusedSimpArgs false
set_option maxRecDepth 100000
set_option maxHeartbeats 4000000
namespace Hd
open Go Hk Go.Proofs
abbrev S_fleet_Task.tup (x : S_fleet_Task) : Int × Int × Int × Int × Int × Int := (x.From, x.To, x.Dep, x.Arr, x.Km, x.Units)
def fS_fleet_Task : FRel S_fleet_Task := fMap S_fleet_Task.tup (fPair (fInt .i64) (fPair (fInt .i64) (fPair (fInt .i64) (fPair (fInt .i64) (fPair (fInt .i64) (fInt .i64))))))
abbrev S_fleet_Limits.tup (x : S_fleet_Limits) : Int × Int × Int × Int × Int × Int × Int := (x.Change, x.Long, x.Work, x.After, x.Break, x.Rest, x.Row)
def fS_fleet_Limits : FRel S_fleet_Limits := fMap S_fleet_Limits.tup (fPair (fInt .i64) (fPair (fInt .i64) (fPair (fInt .i64) (fPair (fInt .i64) (fPair (fInt .i64) (fPair (fInt .i64) (fInt .i64)))))))
abbrev S_fleet_divider.tup (x : S_fleet_divider) : List S_fleet_Task × S_fleet_Limits × List Bool × List (List Int) := (x.tasks, x.limits, x.used, x.duties)
def fS_fleet_divider : FRel S_fleet_divider := fMap S_fleet_divider.tup (fPair (fSl (fS_fleet_Task)) (fPair fS_fleet_Limits (fPair (fSl (fBool)) (fSl (fSl (fInt .i64))))))
def tT : Nat → Type
  | 0 => S_fleet_Task
  | 1 => S_fleet_Limits
  | 2 => S_fleet_divider
  | _ + 3 => Unit
def tR : (i : Nat) → FRel (tT i)
  | 0 => fS_fleet_Task
  | 1 => fS_fleet_Limits
  | 2 => fS_fleet_divider
  | _ + 3 => fUnit
def tF : Nat → List Ty
  | 0 => [(.int .i64), (.int .i64), (.int .i64), (.int .i64), (.int .i64), (.int .i64)]
  | 1 => [(.int .i64), (.int .i64), (.int .i64), (.int .i64), (.int .i64), (.int .i64), (.int .i64)]
  | 2 => [(.sl (.st 0)), (.st 1), (.sl .bool), (.sl (.sl (.int .i64)))]
  | _ + 3 => []
def tTo : (i : Nat) → tT i → Tup tT (tF i)
  | 0 => S_fleet_Task.tup
  | 1 => S_fleet_Limits.tup
  | 2 => S_fleet_divider.tup
  | _ + 3 => fun _ => ()
def tMk : (i : Nat) → Tup tT (tF i) → tT i
  | 0 => fun p => S_fleet_Task.mk p.1 p.2.1 p.2.2.1 p.2.2.2.1 p.2.2.2.2.1 p.2.2.2.2.2
  | 1 => fun p => S_fleet_Limits.mk p.1 p.2.1 p.2.2.1 p.2.2.2.1 p.2.2.2.2.1 p.2.2.2.2.2.1 p.2.2.2.2.2.2
  | 2 => fun p => S_fleet_divider.mk p.1 p.2.1 p.2.2.1 p.2.2.2
  | _ + 3 => fun _ => ()
theorem tOk : ∀ i f cs x, (tR i).p f cs x ↔ (fTup tR (tF i)).p f cs (tTo i x)
  | 0, _, _, _ => Iff.rfl
  | 1, _, _, _ => Iff.rfl
  | 2, _, _, _ => Iff.rfl
  | _ + 3, _, _, _ => Iff.rfl
theorem tTm : ∀ i h, tTo i (tMk i h) = h
  | 0, _ => rfl
  | 1, _ => rfl
  | 2, _ => rfl
  | _ + 3, _ => rfl
def tab : Tab := ⟨tT, tR, tF, tTo, tMk, tOk, tTm⟩
def tt : List (TI tab) := [
  ⟨3, .int .i64, 1, 8, false, [.int .i64 0]⟩,
  ⟨4, .bool, 1, 1, false, [.bool false]⟩,
  ⟨22, .slice 36 (some (.st 0)), 1, 24, false, [.nils]⟩,
  ⟨24, .int .i64, 1, 8, false, [.int .i64 0]⟩,
  ⟨26, .slice 45 (some (.sl (.int .i64))), 1, 24, false, [.nils]⟩,
  ⟨36, .struct [(0, 1, 3), (1, 1, 3), (2, 1, 3), (3, 1, 3), (4, 1, 3), (5, 1, 3)], 6, 48, true, [.int .i64 0, .int .i64 0, .int .i64 0, .int .i64 0, .int .i64 0, .int .i64 0]⟩,
  ⟨45, .slice 3 (some (.int .i64)), 1, 24, false, [.nils]⟩,
  ⟨55, .struct [(0, 1, 3), (1, 1, 3), (2, 1, 3), (3, 1, 3), (4, 1, 3), (5, 1, 3), (6, 1, 3)], 7, 56, true, [.int .i64 0, .int .i64 0, .int .i64 0, .int .i64 0, .int .i64 0, .int .i64 0, .int .i64 0]⟩,
  ⟨104, .slice 4 (some .bool), 1, 24, false, [.nils]⟩,
  ⟨106, .struct [(0, 1, 22), (1, 7, 55), (8, 1, 104), (9, 1, 26)], 10, 128, true, [.nils, .int .i64 0, .int .i64 0, .int .i64 0, .int .i64 0, .int .i64 0, .int .i64 0, .int .i64 0, .nils, .nils]⟩,
  ⟨162, .array 6 3, 6, 48, true, [.int .i64 0, .int .i64 0, .int .i64 0, .int .i64 0, .int .i64 0, .int .i64 0]⟩,
  ⟨167, .int .u64, 1, 8, false, [.int .u64 0]⟩]
theorem ttok : ttOk Try.prog tt = true := by kernel_rfl
theorem mixed : Try.prog.follows .mixedOrders = true := by kernel_rfl
end Hd
