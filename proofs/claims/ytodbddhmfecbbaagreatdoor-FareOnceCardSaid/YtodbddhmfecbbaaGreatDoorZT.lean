/- The table of types. Printed by a tool. -/
import Derived.Test.YtodbddhmfecbbaaGreatDoorD8
import Derived.Test.YtodbddhmfecbbaaGreatDoorProg
import Derived.Test.YtodbddhmfecbbaaGreatDoorZc
import Derived.Test.YtodbddhmfecbbaaGreatDoorZP
set_option linter.unusedVariables false
set_option linter.unusedSimpArgs false
set_option maxRecDepth 100000
set_option maxHeartbeats 4000000
namespace Hd
open Go Hk Go.Proofs
abbrev S_fare_Band.tup (x : S_fare_Band) : Int × Int := (x.Upto, x.Price)
def fS_fare_Band : FRel S_fare_Band := fMap S_fare_Band.tup (fPair (fInt .i64) (fInt .i64))
abbrev S_fare_Cond.tup (x : S_fare_Cond) : Int × Int × Int × List S_fare_Cond := (x.Kind, x.A, x.B, x.Kids)
def fS_fare_Cond_G (E : FRel S_fare_Cond) : FRel S_fare_Cond := fMap S_fare_Cond.tup (fPair (fInt .i64) (fPair (fInt .i64) (fPair (fInt .i64) (fSl E))))
theorem fS_fare_Cond_n : ∀ E, (fS_fare_Cond_G E).n = 4 := fun _ => rfl
def fS_fare_Cond : FRel S_fare_Cond := recR fS_fare_Cond_n
theorem fS_fare_Cond_c : Cont fS_fare_Cond_G := cont_map S_fare_Cond.tup (cont_pair (cont_const (fInt .i64)) (cont_pair (cont_const (fInt .i64)) (cont_pair (cont_const (fInt .i64)) cont_sl)))
abbrev S_fare_Rule.tup (x : S_fare_Rule) : S_fare_Cond × Int × Int × Bool := (x.If, x.Do, x.N, x.Stop)
def fS_fare_Rule : FRel S_fare_Rule := fMap S_fare_Rule.tup (fPair fS_fare_Cond (fPair (fInt .i64) (fPair (fInt .i64) fBool)))
abbrev S_fare_Tariff.tup (x : S_fare_Tariff) : Bool × List S_fare_Band × Int × List S_fare_Rule := (x.ByKm, x.Bands, x.Round, x.Rules)
def fS_fare_Tariff : FRel S_fare_Tariff := fMap S_fare_Tariff.tup (fPair fBool (fPair (fSl (fS_fare_Band)) (fPair (fInt .i64) (fSl (fS_fare_Rule)))))
abbrev S_fare_Trip.tup (x : S_fare_Trip) : Int × Int × Int × Int × Bool × List Int := (x.Day, x.At, x.Km, x.Age, x.Card, x.Zones)
def fS_fare_Trip : FRel S_fare_Trip := fMap S_fare_Trip.tup (fPair (fInt .i64) (fPair (fInt .i64) (fPair (fInt .i64) (fPair (fInt .i64) (fPair fBool (fSl (fInt .i64)))))))
abbrev S_fare_Booking.tup (x : S_fare_Booking) : Int × Int × Int × List Int := (x.No, x.From, x.To, x.Seats)
def fS_fare_Booking : FRel S_fare_Booking := fMap S_fare_Booking.tup (fPair (fInt .i64) (fPair (fInt .i64) (fPair (fInt .i64) (fSl (fInt .i64)))))
abbrev S_fare_Car.tup (x : S_fare_Car) : Int × Int × Int × List S_fare_Booking × List Bool := (x.rows, x.across, x.stops, x.bookings, x.cancelled)
def fS_fare_Car : FRel S_fare_Car := fMap S_fare_Car.tup (fPair (fInt .i64) (fPair (fInt .i64) (fPair (fInt .i64) (fPair (fSl (fS_fare_Booking)) (fSl (fBool))))))
abbrev S_fare_Span.tup (x : S_fare_Span) : Int × Int := (x.From, x.To)
def fS_fare_Span : FRel S_fare_Span := fMap S_fare_Span.tup (fPair (fInt .i64) (fInt .i64))
def tT : Nat → Type
  | 0 => S_fare_Band
  | 1 => S_fare_Cond
  | 2 => S_fare_Rule
  | 3 => S_fare_Tariff
  | 4 => S_fare_Trip
  | 5 => S_fare_Booking
  | 6 => S_fare_Car
  | 7 => S_fare_Span
  | _ + 8 => Unit
def tR : (i : Nat) → FRel (tT i)
  | 0 => fS_fare_Band
  | 1 => fS_fare_Cond
  | 2 => fS_fare_Rule
  | 3 => fS_fare_Tariff
  | 4 => fS_fare_Trip
  | 5 => fS_fare_Booking
  | 6 => fS_fare_Car
  | 7 => fS_fare_Span
  | _ + 8 => fUnit
def tF : Nat → List Ty
  | 0 => [(.int .i64), (.int .i64)]
  | 1 => [(.int .i64), (.int .i64), (.int .i64), (.sl (.st 1))]
  | 2 => [(.st 1), (.int .i64), (.int .i64), .bool]
  | 3 => [.bool, (.sl (.st 0)), (.int .i64), (.sl (.st 2))]
  | 4 => [(.int .i64), (.int .i64), (.int .i64), (.int .i64), .bool, (.sl (.int .i64))]
  | 5 => [(.int .i64), (.int .i64), (.int .i64), (.sl (.int .i64))]
  | 6 => [(.int .i64), (.int .i64), (.int .i64), (.sl (.st 5)), (.sl .bool)]
  | 7 => [(.int .i64), (.int .i64)]
  | _ + 8 => []
def tTo : (i : Nat) → tT i → Tup tT (tF i)
  | 0 => S_fare_Band.tup
  | 1 => S_fare_Cond.tup
  | 2 => S_fare_Rule.tup
  | 3 => S_fare_Tariff.tup
  | 4 => S_fare_Trip.tup
  | 5 => S_fare_Booking.tup
  | 6 => S_fare_Car.tup
  | 7 => S_fare_Span.tup
  | _ + 8 => fun _ => ()
def tMk : (i : Nat) → Tup tT (tF i) → tT i
  | 0 => fun p => S_fare_Band.mk p.1 p.2
  | 1 => fun p => S_fare_Cond.mk p.1 p.2.1 p.2.2.1 p.2.2.2
  | 2 => fun p => S_fare_Rule.mk p.1 p.2.1 p.2.2.1 p.2.2.2
  | 3 => fun p => S_fare_Tariff.mk p.1 p.2.1 p.2.2.1 p.2.2.2
  | 4 => fun p => S_fare_Trip.mk p.1 p.2.1 p.2.2.1 p.2.2.2.1 p.2.2.2.2.1 p.2.2.2.2.2
  | 5 => fun p => S_fare_Booking.mk p.1 p.2.1 p.2.2.1 p.2.2.2
  | 6 => fun p => S_fare_Car.mk p.1 p.2.1 p.2.2.1 p.2.2.2.1 p.2.2.2.2
  | 7 => fun p => S_fare_Span.mk p.1 p.2
  | _ + 8 => fun _ => ()
theorem tOk : ∀ i f cs x, (tR i).p f cs x ↔ (fTup tR (tF i)).p f cs (tTo i x)
  | 0, _, _, _ => Iff.rfl
  | 1, f, cs, x => recR_eq fS_fare_Cond_n fS_fare_Cond_c f cs x
  | 2, _, _, _ => Iff.rfl
  | 3, _, _, _ => Iff.rfl
  | 4, _, _, _ => Iff.rfl
  | 5, _, _, _ => Iff.rfl
  | 6, _, _, _ => Iff.rfl
  | 7, _, _, _ => Iff.rfl
  | _ + 8, _, _, _ => Iff.rfl
theorem tTm : ∀ i h, tTo i (tMk i h) = h
  | 0, _ => rfl
  | 1, _ => rfl
  | 2, _ => rfl
  | 3, _ => rfl
  | 4, _ => rfl
  | 5, _ => rfl
  | 6, _ => rfl
  | 7, _ => rfl
  | _ + 8, _ => rfl
def tab : Tab := ⟨tT, tR, tF, tTo, tMk, tOk, tTm, fun _ => True, fun _ _ _ _ => trivial⟩
def tt : List (TI tab) := [
  ⟨3, .int .i64, 1, 8, false, [.int .i64 0]⟩,
  ⟨4, .bool, 1, 1, false, [.bool false]⟩,
  ⟨5, .int .u8, 1, 1, false, [.int .u8 0]⟩,
  ⟨9, .str, 1, 16, false, [.str ByteArray.empty]⟩,
  ⟨22, .slice 84 (some (.st 0)), 1, 24, false, [.nils]⟩,
  ⟨23, .slice 89 (some (.st 2)), 1, 24, false, [.nils]⟩,
  ⟨25, .struct [(0, 1, 4), (1, 1, 22), (2, 1, 3), (3, 1, 23)] [], 4, 64, true, [.bool false, .nils, .int .i64 0, .nils]⟩,
  ⟨27, .slice 3 (some (.int .i64)), 1, 24, false, [.nils]⟩,
  ⟨31, .int .i64, 1, 8, false, [.int .i64 0]⟩,
  ⟨38, .struct [(0, 1, 3), (1, 1, 3), (2, 1, 3), (3, 1, 3), (4, 1, 4), (5, 1, 27)] [], 6, 64, true, [.int .i64 0, .int .i64 0, .int .i64 0, .int .i64 0, .bool false, .nils]⟩,
  ⟨60, .slice 63 (some (.st 7)), 1, 24, false, [.nils]⟩,
  ⟨63, .struct [(0, 1, 3), (1, 1, 3)] [], 2, 16, true, [.int .i64 0, .int .i64 0]⟩,
  ⟨66, .ptr, 1, 8, false, [.nilp]⟩,
  ⟨72, .struct [(0, 1, 3), (1, 1, 3), (2, 1, 3), (3, 1, 27)] [], 4, 48, true, [.int .i64 0, .int .i64 0, .int .i64 0, .nils]⟩,
  ⟨76, .slice 72 (some (.st 5)), 1, 24, false, [.nils]⟩,
  ⟨84, .struct [(0, 1, 3), (1, 1, 3)] [], 2, 16, true, [.int .i64 0, .int .i64 0]⟩,
  ⟨85, .slice 87 (some (.st 1)), 1, 24, false, [.nils]⟩,
  ⟨87, .struct [(0, 1, 3), (1, 1, 3), (2, 1, 3), (3, 1, 85)] [], 4, 48, true, [.int .i64 0, .int .i64 0, .int .i64 0, .nils]⟩,
  ⟨89, .struct [(0, 4, 87), (4, 1, 3), (5, 1, 3), (6, 1, 4)] [], 7, 72, true, [.int .i64 0, .int .i64 0, .int .i64 0, .nils, .int .i64 0, .int .i64 0, .bool false]⟩,
  ⟨121, .slice 4 (some .bool), 1, 24, false, [.nils]⟩,
  ⟨123, .struct [(0, 1, 3), (1, 1, 3), (2, 1, 3), (3, 1, 76), (4, 1, 121)] [], 5, 72, true, [.int .i64 0, .int .i64 0, .int .i64 0, .nils, .nils]⟩,
  ⟨145, .int .u64, 1, 8, false, [.int .u64 0]⟩,
  ⟨151, .slice 27 (some (.sl (.int .i64))), 1, 24, false, [.nils]⟩,
  ⟨179, .int .u64, 1, 8, false, [.int .u64 0]⟩,
  ⟨203, .int .i64, 1, 8, false, [.int .i64 0]⟩,
  ⟨230, .int .u64, 1, 8, false, [.int .u64 0]⟩]
theorem ttok : ttOk Tryz.prog tt = true := by kernel_rfl
theorem mixed : Tryz.prog.follows .mixedOrders = true := by kernel_rfl
end Hd
