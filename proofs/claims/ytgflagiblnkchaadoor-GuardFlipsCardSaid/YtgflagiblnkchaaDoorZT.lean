/- The table of types. Printed by a tool. -/
import Derived.Test.YtgflagiblnkchaaDoorD8
import Derived.Test.YtgflagiblnkchaaDoorProg
import Derived.Test.YtgflagiblnkchaaDoorZn
import Derived.Test.YtgflagiblnkchaaDoorZP
set_option linter.unusedVariables false
set_option linter.unusedSimpArgs false
set_option maxRecDepth 100000
set_option maxHeartbeats 4000000
namespace Hd
open Go Hk Go.Proofs
abbrev S_guard_Telegram.tup (x : S_guard_Telegram) : Int × Int × Int := (x.Link, x.Section, x.Away)
def fS_guard_Telegram : FRel S_guard_Telegram := fMap S_guard_Telegram.tup (fPair (fInt .i64) (fPair (fInt .i64) (fInt .i64)))
abbrev S_guard_Packet.tup (x : S_guard_Packet) : Int × Int × Int × Int × Int × Int × Int × Int := (x.Kind, x.Session, x.No, x.Of, x.End, x.At, x.Speed, x.Sent)
def fS_guard_Packet : FRel S_guard_Packet := fMap S_guard_Packet.tup (fPair (fInt .i64) (fPair (fInt .i64) (fPair (fInt .i64) (fPair (fInt .i64) (fPair (fInt .i64) (fPair (fInt .i64) (fPair (fInt .i64) (fInt .i64))))))))
def tT : Nat → Type
  | 0 => S_guard_Telegram
  | 1 => S_guard_Packet
  | _ + 2 => Unit
def tR : (i : Nat) → FRel (tT i)
  | 0 => fS_guard_Telegram
  | 1 => fS_guard_Packet
  | _ + 2 => fUnit
def tF : Nat → List Ty
  | 0 => [(.int .i64), (.int .i64), (.int .i64)]
  | 1 => [(.int .i64), (.int .i64), (.int .i64), (.int .i64), (.int .i64), (.int .i64), (.int .i64), (.int .i64)]
  | _ + 2 => []
def tTo : (i : Nat) → tT i → Tup tT (tF i)
  | 0 => S_guard_Telegram.tup
  | 1 => S_guard_Packet.tup
  | _ + 2 => fun _ => ()
def tMk : (i : Nat) → Tup tT (tF i) → tT i
  | 0 => fun p => S_guard_Telegram.mk p.1 p.2.1 p.2.2
  | 1 => fun p => S_guard_Packet.mk p.1 p.2.1 p.2.2.1 p.2.2.2.1 p.2.2.2.2.1 p.2.2.2.2.2.1 p.2.2.2.2.2.2.1 p.2.2.2.2.2.2.2
  | _ + 2 => fun _ => ()
theorem tOk : ∀ i f cs x, (tR i).p f cs x ↔ (fTup tR (tF i)).p f cs (tTo i x)
  | 0, _, _, _ => Iff.rfl
  | 1, _, _, _ => Iff.rfl
  | _ + 2, _, _, _ => Iff.rfl
theorem tTm : ∀ i h, tTo i (tMk i h) = h
  | 0, _ => rfl
  | 1, _ => rfl
  | _ + 2, _ => rfl
def tab : Tab := ⟨tT, tR, tF, tTo, tMk, tOk, tTm, glb, glb_mono⟩
def tt : List (TI tab) := [
  ⟨3, .int .i64, 1, 8, false, [.int .i64 0]⟩,
  ⟨5, .int .u8, 1, 1, false, [.int .u8 0]⟩,
  ⟨9, .str, 1, 16, false, [.str ByteArray.empty]⟩,
  ⟨23, .struct [(0, 1, 3), (1, 1, 3), (2, 1, 3)] [.int .i64, .int .i64, .int .i64], 3, 24, true, [.int .i64 0, .int .i64 0, .int .i64 0]⟩,
  ⟨24, .slice 3 (some (.int .i64)), 1, 24, false, [.nils]⟩,
  ⟨26, .slice 5 (some (.int .u8)), 1, 24, false, [.nils]⟩,
  ⟨27, .int .i64, 1, 8, false, [.int .i64 0]⟩,
  ⟨36, .struct [(0, 1, 3), (1, 1, 3), (2, 1, 3), (3, 1, 3), (4, 1, 3), (5, 1, 3), (6, 1, 3), (7, 1, 3)] [.int .i64, .int .i64, .int .i64, .int .i64, .int .i64, .int .i64, .int .i64, .int .i64], 8, 64, true, [.int .i64 0, .int .i64 0, .int .i64 0, .int .i64 0, .int .i64 0, .int .i64 0, .int .i64 0, .int .i64 0]⟩,
  ⟨80, .array 8 5, 8, 8, true, [.int .u8 0, .int .u8 0, .int .u8 0, .int .u8 0, .int .u8 0, .int .u8 0, .int .u8 0, .int .u8 0]⟩,
  ⟨83, .slice 9 (some .str), 1, 24, false, [.nils]⟩,
  ⟨106, .int .u16, 1, 2, false, [.int .u16 0]⟩]
theorem ttok : ttOk Tryd.prog tt = true := by kernel_rfl
theorem mixed : Tryd.prog.follows .mixedOrders = true := by kernel_rfl
end Hd
