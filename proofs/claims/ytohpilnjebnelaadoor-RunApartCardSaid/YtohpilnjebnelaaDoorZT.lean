/- The table of types. Printed by a tool. -/
import Derived.Test.YtohpilnjebnelaaDoorD8
import Derived.Test.YtohpilnjebnelaaDoorProg
import Derived.Test.YtohpilnjebnelaaDoorZS
import Derived.Test.YtohpilnjebnelaaDoorZP
set_option linter.unusedVariables false
set_option linter.unusedSimpArgs false
set_option maxRecDepth 100000
set_option maxHeartbeats 4000000
namespace Hd
open Go Hk Go.Proofs
abbrev S_api_Stock.tup (x : S_api_Stock) : ByteArray × Int × Int × Int × Int × Int × Int × Int × Int × Int := (x.Name, x.Length, x.Mass, x.Start, x.Power, x.Roll, x.Drag, x.Brake, x.Top, x.Seats)
def fS_api_Stock : FRel S_api_Stock := fMap S_api_Stock.tup (fPair fStr (fPair (fInt .i64) (fPair (fInt .i64) (fPair (fInt .i64) (fPair (fInt .i64) (fPair (fInt .i64) (fPair (fInt .i64) (fPair (fInt .i64) (fPair (fInt .i64) (fInt .i64))))))))))
abbrev S_64.tup (x : S_64) : Int × Int × Int × Int × Int × Int × Int × Int × Int := (x.e0, x.e1, x.e2, x.e3, x.e4, x.e5, x.e6, x.e7, x.e8)
def fS_64 : FRel S_64 := fMap S_64.tup (fPair (fInt .i64) (fPair (fInt .i64) (fPair (fInt .i64) (fPair (fInt .i64) (fPair (fInt .i64) (fPair (fInt .i64) (fPair (fInt .i64) (fPair (fInt .i64) (fInt .i64)))))))))
abbrev S_api_Need.tup (x : S_api_Need) : Int × Int × Int × Int := (x.Kind, x.Place, x.Position, x.At)
def fS_api_Need : FRel S_api_Need := fMap S_api_Need.tup (fPair (fInt .i64) (fPair (fInt .i64) (fPair (fInt .i64) (fInt .i64))))
abbrev S_api_Hold.tup (x : S_api_Hold) : S_api_Need × Int × Int := (x.Need, x.From, x.To)
def fS_api_Hold : FRel S_api_Hold := fMap S_api_Hold.tup (fPair fS_api_Need (fPair (fInt .i64) (fInt .i64)))
abbrev S_62.tup (x : S_62) : Int × Int := (x.e0, x.e1)
def fS_62 : FRel S_62 := fMap S_62.tup (fPair (fInt .i64) (fInt .i64))
def tT : Nat → Type
  | 0 => S_api_Stock
  | 1 => S_64
  | 2 => S_api_Need
  | 3 => S_api_Hold
  | 4 => S_62
  | _ + 5 => Unit
def tR : (i : Nat) → FRel (tT i)
  | 0 => fS_api_Stock
  | 1 => fS_64
  | 2 => fS_api_Need
  | 3 => fS_api_Hold
  | 4 => fS_62
  | _ + 5 => fUnit
def tF : Nat → List Ty
  | 0 => [.str, (.int .i64), (.int .i64), (.int .i64), (.int .i64), (.int .i64), (.int .i64), (.int .i64), (.int .i64), (.int .i64)]
  | 1 => [(.int .i64), (.int .i64), (.int .i64), (.int .i64), (.int .i64), (.int .i64), (.int .i64), (.int .i64), (.int .i64)]
  | 2 => [(.int .i64), (.int .i64), (.int .i64), (.int .i64)]
  | 3 => [(.st 2), (.int .i64), (.int .i64)]
  | 4 => [(.int .i64), (.int .i64)]
  | _ + 5 => []
def tTo : (i : Nat) → tT i → Tup tT (tF i)
  | 0 => S_api_Stock.tup
  | 1 => S_64.tup
  | 2 => S_api_Need.tup
  | 3 => S_api_Hold.tup
  | 4 => S_62.tup
  | _ + 5 => fun _ => ()
def tMk : (i : Nat) → Tup tT (tF i) → tT i
  | 0 => fun p => S_api_Stock.mk p.1 p.2.1 p.2.2.1 p.2.2.2.1 p.2.2.2.2.1 p.2.2.2.2.2.1 p.2.2.2.2.2.2.1 p.2.2.2.2.2.2.2.1 p.2.2.2.2.2.2.2.2.1 p.2.2.2.2.2.2.2.2.2
  | 1 => fun p => S_64.mk p.1 p.2.1 p.2.2.1 p.2.2.2.1 p.2.2.2.2.1 p.2.2.2.2.2.1 p.2.2.2.2.2.2.1 p.2.2.2.2.2.2.2.1 p.2.2.2.2.2.2.2.2
  | 2 => fun p => S_api_Need.mk p.1 p.2.1 p.2.2.1 p.2.2.2
  | 3 => fun p => S_api_Hold.mk p.1 p.2.1 p.2.2
  | 4 => fun p => S_62.mk p.1 p.2
  | _ + 5 => fun _ => ()
theorem tOk : ∀ i f cs x, (tR i).p f cs x ↔ (fTup tR (tF i)).p f cs (tTo i x)
  | 0, _, _, _ => Iff.rfl
  | 1, _, _, _ => Iff.rfl
  | 2, _, _, _ => Iff.rfl
  | 3, _, _, _ => Iff.rfl
  | 4, _, _, _ => Iff.rfl
  | _ + 5, _, _, _ => Iff.rfl
theorem tTm : ∀ i h, tTo i (tMk i h) = h
  | 0, _ => rfl
  | 1, _ => rfl
  | 2, _ => rfl
  | 3, _ => rfl
  | 4, _ => rfl
  | _ + 5, _ => rfl
def tab : Tab := ⟨tT, tR, tF, tTo, tMk, tOk, tTm⟩
def tt : List (TI tab) := [
  ⟨3, .int .i64, 1, 8, false, [.int .i64 0]⟩,
  ⟨5, .int .u8, 1, 1, false, [.int .u8 0]⟩,
  ⟨9, .str, 1, 16, false, [.str ByteArray.empty]⟩,
  ⟨23, .struct [(0, 1, 9), (1, 1, 3), (2, 1, 3), (3, 1, 3), (4, 1, 3), (5, 1, 3), (6, 1, 3), (7, 1, 3), (8, 1, 3), (9, 1, 3)], 10, 88, true, [.str ByteArray.empty, .int .i64 0, .int .i64 0, .int .i64 0, .int .i64 0, .int .i64 0, .int .i64 0, .int .i64 0, .int .i64 0, .int .i64 0]⟩,
  ⟨25, .int .i64, 1, 8, false, [.int .i64 0]⟩,
  ⟨31, .slice 36 (some (.st 3)), 1, 24, false, [.nils]⟩,
  ⟨32, .slice 31 (some (.sl (.st 3))), 1, 24, false, [.nils]⟩,
  ⟨34, .struct [(0, 1, 3), (1, 1, 3), (2, 1, 3), (3, 1, 3)], 4, 32, true, [.int .i64 0, .int .i64 0, .int .i64 0, .int .i64 0]⟩,
  ⟨36, .struct [(0, 4, 34), (4, 1, 3), (5, 1, 3)], 6, 48, true, [.int .i64 0, .int .i64 0, .int .i64 0, .int .i64 0, .int .i64 0, .int .i64 0]⟩,
  ⟨38, .slice 62 (some (.st 4)), 1, 24, false, [.nils]⟩,
  ⟨41, .slice 42 (some (.sl (.int .i64))), 1, 24, false, [.nils]⟩,
  ⟨42, .slice 3 (some (.int .i64)), 1, 24, false, [.nils]⟩,
  ⟨62, .array 2 3, 2, 16, true, [.int .i64 0, .int .i64 0]⟩,
  ⟨63, .array 9 62, 18, 144, true, [.int .i64 0, .int .i64 0, .int .i64 0, .int .i64 0, .int .i64 0, .int .i64 0, .int .i64 0, .int .i64 0, .int .i64 0, .int .i64 0, .int .i64 0, .int .i64 0, .int .i64 0, .int .i64 0, .int .i64 0, .int .i64 0, .int .i64 0, .int .i64 0]⟩,
  ⟨64, .array 9 3, 9, 72, true, [.int .i64 0, .int .i64 0, .int .i64 0, .int .i64 0, .int .i64 0, .int .i64 0, .int .i64 0, .int .i64 0, .int .i64 0]⟩,
  ⟨73, .slice 76 (some (.sl .str)), 1, 24, false, [.nils]⟩,
  ⟨76, .slice 9 (some .str), 1, 24, false, [.nils]⟩,
  ⟨81, .slice 5 (some (.int .u8)), 1, 24, false, [.nils]⟩,
  ⟨83, .other, 1, 8, false, [.nilf]⟩]
theorem ttok : ttOk Tryd.prog tt = true := by kernel_rfl
theorem mixed : Tryd.prog.follows .mixedOrders = true := by kernel_rfl
end Hd
