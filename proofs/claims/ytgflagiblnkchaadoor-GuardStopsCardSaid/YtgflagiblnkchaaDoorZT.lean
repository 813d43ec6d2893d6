/- The table of types. Printed by a tool. -/
import Derived.Test.YtgflagiblnkchaaDoorD8
import Derived.Test.YtgflagiblnkchaaDoorProg
import Derived.Test.YtgflagiblnkchaaDoorZn
import Derived.Test.YtgflagiblnkchaaDoorZP
set_option linter.unusedVariables false
set_option linter.unusedSimpArgs false
set_option maxRecDepth 100000
set_option maxHeartbeats 4000000
namespace Hd
open Go Hk Go.Proofs
abbrev S_api_Stock.tup (x : S_api_Stock) : ByteArray × Int × Int × Int × Int × Int × Int × Int × Int × Int := (x.Name, x.Length, x.Mass, x.Start, x.Power, x.Roll, x.Drag, x.Brake, x.Top, x.Seats)
def fS_api_Stock : FRel S_api_Stock := fMap S_api_Stock.tup (fPair fStr (fPair (fInt .i64) (fPair (fInt .i64) (fPair (fInt .i64) (fPair (fInt .i64) (fPair (fInt .i64) (fPair (fInt .i64) (fPair (fInt .i64) (fPair (fInt .i64) (fInt .i64))))))))))
abbrev S_api_Piece.tup (x : S_api_Piece) : Int × Int × Int := (x.Length, x.Grade, x.Speed)
def fS_api_Piece : FRel S_api_Piece := fMap S_api_Piece.tup (fPair (fInt .i64) (fPair (fInt .i64) (fInt .i64)))
abbrev S_api_State.tup (x : S_api_State) : Int × Int × Int := (x.At, x.Speed, x.Work)
def fS_api_State : FRel S_api_State := fMap S_api_State.tup (fPair (fInt .i64) (fPair (fInt .i64) (fInt .i64)))
abbrev S_guard_Packet.tup (x : S_guard_Packet) : Int × Int × Int × Int × Int × Int × Int × Int := (x.Kind, x.Session, x.No, x.Of, x.End, x.At, x.Speed, x.Sent)
def fS_guard_Packet : FRel S_guard_Packet := fMap S_guard_Packet.tup (fPair (fInt .i64) (fPair (fInt .i64) (fPair (fInt .i64) (fPair (fInt .i64) (fPair (fInt .i64) (fPair (fInt .i64) (fPair (fInt .i64) (fInt .i64))))))))
abbrev S_147.tup (x : S_147) : Int × Int × Int × Int × Int × Int × Int × Int × Int := (x.e0, x.e1, x.e2, x.e3, x.e4, x.e5, x.e6, x.e7, x.e8)
def fS_147 : FRel S_147 := fMap S_147.tup (fPair (fInt .i64) (fPair (fInt .i64) (fPair (fInt .i64) (fPair (fInt .i64) (fPair (fInt .i64) (fPair (fInt .i64) (fPair (fInt .i64) (fPair (fInt .i64) (fInt .i64)))))))))
abbrev S_fishkeep1_Ride.tup (x : S_fishkeep1_Ride) : Int × Int × Int := (x.Demand, x.Err, x.End)
def fS_fishkeep1_Ride : FRel S_fishkeep1_Ride := fMap S_fishkeep1_Ride.tup (fPair (fInt .i64) (fPair (fInt .i64) (fInt .i64)))
def tT : Nat → Type
  | 0 => S_api_Stock
  | 1 => S_api_Piece
  | 2 => S_api_State
  | 3 => S_guard_Packet
  | 4 => S_147
  | 5 => S_fishkeep1_Ride
  | _ + 6 => Unit
def tR : (i : Nat) → FRel (tT i)
  | 0 => fS_api_Stock
  | 1 => fS_api_Piece
  | 2 => fS_api_State
  | 3 => fS_guard_Packet
  | 4 => fS_147
  | 5 => fS_fishkeep1_Ride
  | _ + 6 => fUnit
def tF : Nat → List Ty
  | 0 => [.str, (.int .i64), (.int .i64), (.int .i64), (.int .i64), (.int .i64), (.int .i64), (.int .i64), (.int .i64), (.int .i64)]
  | 1 => [(.int .i64), (.int .i64), (.int .i64)]
  | 2 => [(.int .i64), (.int .i64), (.int .i64)]
  | 3 => [(.int .i64), (.int .i64), (.int .i64), (.int .i64), (.int .i64), (.int .i64), (.int .i64), (.int .i64)]
  | 4 => [(.int .i64), (.int .i64), (.int .i64), (.int .i64), (.int .i64), (.int .i64), (.int .i64), (.int .i64), (.int .i64)]
  | 5 => [(.int .i64), (.int .i64), (.int .i64)]
  | _ + 6 => []
def tTo : (i : Nat) → tT i → Tup tT (tF i)
  | 0 => S_api_Stock.tup
  | 1 => S_api_Piece.tup
  | 2 => S_api_State.tup
  | 3 => S_guard_Packet.tup
  | 4 => S_147.tup
  | 5 => S_fishkeep1_Ride.tup
  | _ + 6 => fun _ => ()
def tMk : (i : Nat) → Tup tT (tF i) → tT i
  | 0 => fun p => S_api_Stock.mk p.1 p.2.1 p.2.2.1 p.2.2.2.1 p.2.2.2.2.1 p.2.2.2.2.2.1 p.2.2.2.2.2.2.1 p.2.2.2.2.2.2.2.1 p.2.2.2.2.2.2.2.2.1 p.2.2.2.2.2.2.2.2.2
  | 1 => fun p => S_api_Piece.mk p.1 p.2.1 p.2.2
  | 2 => fun p => S_api_State.mk p.1 p.2.1 p.2.2
  | 3 => fun p => S_guard_Packet.mk p.1 p.2.1 p.2.2.1 p.2.2.2.1 p.2.2.2.2.1 p.2.2.2.2.2.1 p.2.2.2.2.2.2.1 p.2.2.2.2.2.2.2
  | 4 => fun p => S_147.mk p.1 p.2.1 p.2.2.1 p.2.2.2.1 p.2.2.2.2.1 p.2.2.2.2.2.1 p.2.2.2.2.2.2.1 p.2.2.2.2.2.2.2.1 p.2.2.2.2.2.2.2.2
  | 5 => fun p => S_fishkeep1_Ride.mk p.1 p.2.1 p.2.2
  | _ + 6 => fun _ => ()
theorem tOk : ∀ i f cs x, (tR i).p f cs x ↔ (fTup tR (tF i)).p f cs (tTo i x)
  | 0, _, _, _ => Iff.rfl
  | 1, _, _, _ => Iff.rfl
  | 2, _, _, _ => Iff.rfl
  | 3, _, _, _ => Iff.rfl
  | 4, _, _, _ => Iff.rfl
  | 5, _, _, _ => Iff.rfl
  | _ + 6, _, _, _ => Iff.rfl
theorem tTm : ∀ i h, tTo i (tMk i h) = h
  | 0, _ => rfl
  | 1, _ => rfl
  | 2, _ => rfl
  | 3, _ => rfl
  | 4, _ => rfl
  | 5, _ => rfl
  | _ + 6, _ => rfl
def tab : Tab := ⟨tT, tR, tF, tTo, tMk, tOk, tTm, glb, glb_mono⟩
def tt : List (TI tab) := [
  ⟨3, .int .i64, 1, 8, false, [.int .i64 0]⟩,
  ⟨5, .int .u8, 1, 1, false, [.int .u8 0]⟩,
  ⟨9, .str, 1, 16, false, [.str ByteArray.empty]⟩,
  ⟨24, .slice 3 (some (.int .i64)), 1, 24, false, [.nils]⟩,
  ⟨26, .slice 5 (some (.int .u8)), 1, 24, false, [.nils]⟩,
  ⟨27, .int .i64, 1, 8, false, [.int .i64 0]⟩,
  ⟨36, .struct [(0, 1, 3), (1, 1, 3), (2, 1, 3), (3, 1, 3), (4, 1, 3), (5, 1, 3), (6, 1, 3), (7, 1, 3)] [.int .i64, .int .i64, .int .i64, .int .i64, .int .i64, .int .i64, .int .i64, .int .i64], 8, 64, true, [.int .i64 0, .int .i64 0, .int .i64 0, .int .i64 0, .int .i64 0, .int .i64 0, .int .i64 0, .int .i64 0]⟩,
  ⟨59, .struct [(0, 1, 9), (1, 1, 3), (2, 1, 3), (3, 1, 3), (4, 1, 3), (5, 1, 3), (6, 1, 3), (7, 1, 3), (8, 1, 3), (9, 1, 3)] [], 10, 88, true, [.str ByteArray.empty, .int .i64 0, .int .i64 0, .int .i64 0, .int .i64 0, .int .i64 0, .int .i64 0, .int .i64 0, .int .i64 0, .int .i64 0]⟩,
  ⟨60, .slice 69 (some (.st 1)), 1, 24, false, [.nils]⟩,
  ⟨62, .struct [(0, 1, 3), (1, 1, 3), (2, 1, 3)] [.int .i64, .int .i64, .int .i64], 3, 24, true, [.int .i64 0, .int .i64 0, .int .i64 0]⟩,
  ⟨67, .slice 71 (some (.st 5)), 1, 24, false, [.nils]⟩,
  ⟨69, .struct [(0, 1, 3), (1, 1, 3), (2, 1, 3)] [], 3, 24, true, [.int .i64 0, .int .i64 0, .int .i64 0]⟩,
  ⟨71, .struct [(0, 1, 3), (1, 1, 3), (2, 1, 3)] [], 3, 24, true, [.int .i64 0, .int .i64 0, .int .i64 0]⟩,
  ⟨83, .slice 9 (some .str), 1, 24, false, [.nils]⟩,
  ⟨127, .map 3 24 false [.int .i64] (.int .i64) (.sl (.int .i64)), 1, 8, false, [.nilm]⟩,
  ⟨129, .struct [(0, 10, 59), (10, 1, 60), (11, 1, 24), (12, 1, 3), (13, 1, 3), (14, 1, 127)] [], 15, 160, true, [.str ByteArray.empty, .int .i64 0, .int .i64 0, .int .i64 0, .int .i64 0, .int .i64 0, .int .i64 0, .int .i64 0, .int .i64 0, .int .i64 0, .nils, .nils, .int .i64 0, .int .i64 0, .nilm]⟩,
  ⟨135, .struct [(0, 10, 59), (10, 1, 60), (11, 1, 127)] [], 12, 120, true, [.str ByteArray.empty, .int .i64 0, .int .i64 0, .int .i64 0, .int .i64 0, .int .i64 0, .int .i64 0, .int .i64 0, .int .i64 0, .int .i64 0, .nils, .nilm]⟩,
  ⟨145, .array 2 3, 2, 16, true, [.int .i64 0, .int .i64 0]⟩,
  ⟨146, .array 9 145, 18, 144, true, [.int .i64 0, .int .i64 0, .int .i64 0, .int .i64 0, .int .i64 0, .int .i64 0, .int .i64 0, .int .i64 0, .int .i64 0, .int .i64 0, .int .i64 0, .int .i64 0, .int .i64 0, .int .i64 0, .int .i64 0, .int .i64 0, .int .i64 0, .int .i64 0]⟩,
  ⟨147, .array 9 3, 9, 72, true, [.int .i64 0, .int .i64 0, .int .i64 0, .int .i64 0, .int .i64 0, .int .i64 0, .int .i64 0, .int .i64 0, .int .i64 0]⟩]
theorem ttok : ttOk Tryd.prog tt = true := by kernel_rfl
theorem mixed : Tryd.prog.follows .mixedOrders = true := by kernel_rfl
end Hd
