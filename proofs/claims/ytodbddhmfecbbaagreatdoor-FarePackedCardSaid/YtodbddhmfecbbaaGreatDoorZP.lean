/- Functions of the program as plain functions. Printed by a tool. -/
import Derived.Test.YtodbddhmfecbbaaGreatDoorG1
set_option linter.unusedVariables false
set_option linter.unusedSimpArgs false
set_option maxRecDepth 100000
set_option maxHeartbeats 4000000
namespace Hd
open Go Hk
structure S_fare_Span where
  From : Int
  To : Int
structure S_fare_Band where
  Upto : Int
  Price : Int
structure S_fare_Cond where
  Kind : Int
  A : Int
  B : Int
  Kids : List S_fare_Cond
structure S_fare_Rule where
  If : S_fare_Cond
  Do : Int
  N : Int
  Stop : Bool
structure S_fare_Tariff where
  ByKm : Bool
  Bands : List S_fare_Band
  Round : Int
  Rules : List S_fare_Rule
structure S_fare_Trip where
  Day : Int
  At : Int
  Km : Int
  Age : Int
  Card : Bool
  Zones : List Int
def fishkeep2_awakeFare : Option Bool := some true
def fare_within (p0 : Int) (p1 : Int) (p2 : Int) : Option (Bool) :=
  ((ifb (decide (p0 ≥ p1)) (some (decide (p0 ≤ p2))) (some false)).bind fun (s2 : Bool) => (some s2))
def fare_Cond_size_b1 (rec_ : S_fare_Cond → Option (Int × Int)) (i7 : Nat) (x11 : S_fare_Cond) (s10 : Int × Int) : Option (Ctl (Int × Int) (Ctl (Int × Int) (Empty))) :=
  ((rec_ (S_fare_Cond.mk x11.Kind x11.A x11.B x11.Kids)).bind fun (x12 : Int × Int) => (some (.go (w64 (s10.1 + x12.1), gmax s10.2 x12.2))))
def fare_Cond_size_step (rec_ : S_fare_Cond → Option (Int × Int)) (p0 : S_fare_Cond) : Option (Int × Int) :=
  ((forX (fare_Cond_size_b1 rec_) p0.Kids (1, 0)).bind fun c14 => Ctl.on c14 (fun s9 => (some (s9.1, w64 (s9.2 + 1)))) (fun x_ => x_.elim))
def fare_Cond_size_n : Nat → S_fare_Cond → Option (Int × Int)
  | 0 => fun _ => none
  | n + 1 => fare_Cond_size_step (fare_Cond_size_n n)
def fare_Cond_size : S_fare_Cond → Option (Int × Int) := fare_Cond_size_n bigN
def fare_numbers (p0 : Int) : Option (Int) :=
  ((ifb (p0 == 2) (some (p0 == 2)) (ifb (p0 == 3) (some (p0 == 3)) (ifb (p0 == 4) (some (p0 == 4)) (some (p0 == 5))))).bind fun (s3 : Bool) => (ifb s3 (some 2) ((ifb (p0 == 6) (some (p0 == 6)) (ifb (p0 == 7) (some (p0 == 7)) (some (p0 == 8)))).bind fun (s4 : Bool) => (ifb s4 (some 1) (some 0)))))
def fare_Cond_node_b1 (rec_ : S_fare_Cond → Option (Int)) (i30 : Nat) (x34 : S_fare_Cond) (s33 : Unit) : Option (Ctl (Unit) (Ctl (Unit) (Int))) :=
  ((rec_ (S_fare_Cond.mk x34.Kind x34.A x34.B x34.Kids)).bind fun (x35 : Int) => (ifb (x35 != 0) (some (.out (.out x35))) (some (.go ()))))
def fare_Cond_node_step (rec_ : S_fare_Cond → Option (Int)) (p0 : S_fare_Cond) : Option (Int) :=
  ((fare_numbers p0.Kind).bind fun (x21 : Int) => ((fare_within p0.Kind 0 11).bind fun (x22 : Bool) => (ifb (!x22) (some 15) (((fare_within p0.A 0 28800).bind fun (x26 : Bool) => (ifb (!x26) (some true) ((fare_within p0.B 0 28800).bind fun (x27 : Bool) => (some (!x27))))).bind fun (s25 : Bool) => (ifb s25 (some 2) ((ifb (decide (x21 < 1)) (ifb (p0.A != 0) (some true) (ifb (decide (x21 < 2)) (ifb (p0.B != 0) (some true) (ifb (x21 == 2) (some (decide (p0.A > p0.B))) (some false))) (ifb (x21 == 2) (some (decide (p0.A > p0.B))) (some false)))) (ifb (decide (x21 < 2)) (ifb (p0.B != 0) (some true) (ifb (x21 == 2) (some (decide (p0.A > p0.B))) (some false))) (ifb (x21 == 2) (some (decide (p0.A > p0.B))) (some false)))).bind fun (s28 : Bool) => (ifb s28 (some 1) ((ifb (p0.Kind == 9) (ifb (((p0.Kids.length) : Int) != 1) (some true) (ifb (decide (p0.Kind > 9)) (ifb (decide (((p0.Kids.length) : Int) < 2)) (some true) (ifb (decide (p0.Kind < 9)) (some (decide (((p0.Kids.length) : Int) > 0))) (some false))) (ifb (decide (p0.Kind < 9)) (some (decide (((p0.Kids.length) : Int) > 0))) (some false)))) (ifb (decide (p0.Kind > 9)) (ifb (decide (((p0.Kids.length) : Int) < 2)) (some true) (ifb (decide (p0.Kind < 9)) (some (decide (((p0.Kids.length) : Int) > 0))) (some false))) (ifb (decide (p0.Kind < 9)) (some (decide (((p0.Kids.length) : Int) > 0))) (some false)))).bind fun (s29 : Bool) => (ifb s29 (some 1) ((forX (fare_Cond_node_b1 rec_) p0.Kids ()).bind fun c37 => Ctl.on c37 (fun s32 => (some 0)) (fun r36 => (some r36))))))))))))
def fare_Cond_node_n : Nat → S_fare_Cond → Option (Int)
  | 0 => fun _ => none
  | n + 1 => fare_Cond_node_step (fare_Cond_node_n n)
def fare_Cond_node : S_fare_Cond → Option (Int) := fare_Cond_node_n bigN
def fare_Cond_check (p0 : S_fare_Cond) : Option (Int) :=
  ((fare_Cond_size (S_fare_Cond.mk p0.Kind p0.A p0.B p0.Kids)).bind fun (x4 : Int × Int) => ((ifb (decide (x4.1 > 40)) (some true) (some (decide (x4.2 > 6)))).bind fun (s5 : Bool) => (ifb s5 (some 4) ((fare_Cond_node (S_fare_Cond.mk p0.Kind p0.A p0.B p0.Kids)).bind fun (x6 : Int) => (some x6)))))
def fare_CheckTariff_b1 (p0 : S_fare_Tariff) (i13 : Nat) (x17 : S_fare_Band) (s16 : Unit) : Option (Ctl (Unit) (Ctl (Unit) (Int))) :=
  (((fare_within x17.Upto 1 1000).bind fun (x21 : Bool) => (ifb (!x21) (some true) ((fare_within x17.Price 0 100000).bind fun (x22 : Bool) => (some (!x22))))).bind fun (s20 : Bool) => (ifb s20 (some (.out (.out 2))) ((ifb (decide ((i13 : Int) > 0)) ((idx p0.Bands (w64 ((i13 : Int) - 1))).bind fun (x26 : S_fare_Band) => (ifb (decide (x17.Upto ≤ x26.Upto)) (some true) ((idx p0.Bands (w64 ((i13 : Int) - 1))).bind fun (x27 : S_fare_Band) => (some (decide (x17.Price < x27.Price)))))) (some false)).bind fun (s25 : Bool) => (ifb s25 (some (.out (.out 1))) (some (.go ()))))))
def fare_CheckTariff_b2 (i29 : Nat) (x33 : S_fare_Rule) (s32 : Unit) : Option (Ctl (Unit) (Ctl (Unit) (Int))) :=
  ((fare_Cond_check (S_fare_Cond.mk x33.If.Kind x33.If.A x33.If.B x33.If.Kids)).bind fun (x34 : Int) => (ifb (x34 != 0) (some (.out (.out x34))) ((ifb (x33.Do == 1) (some 200) (some 100000)).bind fun (s35 : Int) => ((fare_within x33.Do 1 6).bind fun (x36 : Bool) => (ifb (!x36) (some (.out (.out 15))) ((fare_within x33.N 0 s35).bind fun (x37 : Bool) => (ifb (!x37) (some (.out (.out 2))) (some (.go ())))))))))
def fare_CheckTariff (p0 : S_fare_Tariff) : Option (Int) :=
  (((fare_within ((p0.Bands.length) : Int) 1 8).bind fun (x12 : Bool) => (ifb (!x12) (some true) (some (decide (((p0.Rules.length) : Int) > 20))))).bind fun (s11 : Bool) => (ifb s11 (some 4) ((forX (fare_CheckTariff_b1 p0) p0.Bands ()).bind fun c41 => Ctl.on c41 (fun s15 => ((fare_within p0.Round 1 100).bind fun (x28 : Bool) => (ifb (!x28) (some 2) ((forX fare_CheckTariff_b2 p0.Rules ()).bind fun c39 => Ctl.on c39 (fun s31 => (some 0)) (fun r38 => (some r38)))))) (fun r40 => (some r40)))))
def fare_checkZones_b1 (p0 : List Int) (p1 : Bool) (i4 : Nat) (x8 : Int) (s7 : Unit) : Option (Ctl (Unit) (Ctl (Unit) (Int))) :=
  ((fare_within x8 0 19).bind fun (x9 : Bool) => (ifb (!x9) (some (.out (.out 2))) ((ifb (decide ((i4 : Int) > 0)) ((idx p0 (w64 ((i4 : Int) - 1))).bind fun (x13 : Int) => (ifb (x8 == x13) (some true) (ifb p1 ((idx p0 (w64 ((i4 : Int) - 1))).bind fun (x14 : Int) => (some (decide (x8 < x14)))) (some false)))) (some false)).bind fun (s12 : Bool) => (ifb s12 (some (.out (.out 1))) (some (.go ()))))))
def fare_checkZones (p0 : List Int) (p1 : Bool) : Option (Int) :=
  ((forX (fare_checkZones_b1 p0 p1) p0 ()).bind fun c16 => Ctl.on c16 (fun s6 => (some 0)) (fun r15 => (some r15)))
def fare_CheckTrip (p0 : S_fare_Trip) : Option (Int) :=
  (((fare_within p0.Day 0 6).bind fun (x13 : Bool) => (ifb (!x13) (some true) ((fare_within p0.At 0 28800).bind fun (x14 : Bool) => (ifb (!x14) (some true) ((fare_within p0.Km 0 1000).bind fun (x15 : Bool) => (ifb (!x15) (some true) ((fare_within p0.Age 0 120).bind fun (x16 : Bool) => (some (!x16))))))))).bind fun (s12 : Bool) => (ifb s12 (some 2) ((fare_within ((p0.Zones.length) : Int) 1 10).bind fun (x17 : Bool) => (ifb (!x17) (some 4) ((fare_checkZones p0.Zones false).bind fun (x18 : Int) => (some x18))))))
def fare_Tariff_price_1 (p0 : S_fare_Band) (p1 : Option Int) : Option (Bool) :=
  ((p1).bind fun (x2 : Int) => (some (decide (p0.Upto ≥ x2))))
def slices_IndexFunc_fare_Band_fare_Band_b1 (p1 : Option Int) (i4 : Nat) (x8 : S_fare_Band) (s7 : Unit) : Option (Ctl (Unit) (Ctl (Unit) (Int))) :=
  ((fare_Tariff_price_1 x8 p1).bind fun (x9 : Bool) => (ifb x9 (some (.out (.out (i4 : Int)))) (some (.go ()))))
def slices_IndexFunc_fare_Band_fare_Band (p0 : List S_fare_Band) (p1 : Option Int) : Option (Int) :=
  ((forX (slices_IndexFunc_fare_Band_fare_Band_b1 p1) p0 ()).bind fun c11 => Ctl.on c11 (fun s6 => (some (-1))) (fun r10 => (some r10)))
def fare_Cond_holds_1 (p0 : Int) (p1 : Option S_fare_Cond) : Option (Bool) :=
  ((p1).bind fun (x4 : S_fare_Cond) => ((p1).bind fun (x5 : S_fare_Cond) => ((fare_within p0 x4.A x5.B).bind fun (x6 : Bool) => (some x6))))
def slices_Index_int_int_b1 (p1 : Int) (i4 : Nat) (x8 : Int) (s7 : Unit) : Option (Ctl (Unit) (Ctl (Unit) (Int))) :=
  (ifb (p1 == x8) (some (.out (.out (i4 : Int)))) (some (.go ())))
def slices_Index_int_int (p0 : List Int) (p1 : Int) : Option (Int) :=
  ((forX (slices_Index_int_int_b1 p1) p0 ()).bind fun c10 => Ctl.on c10 (fun s6 => (some (-1))) (fun r9 => (some r9)))
def slices_Contains_int_int (p0 : List Int) (p1 : Int) : Option (Bool) :=
  ((slices_Index_int_int p0 p1).bind fun (x2 : Int) => (some (decide (x2 ≥ 0))))
def fare_Cond_holds_2 (rec_fare_Cond_holds : S_fare_Cond → S_fare_Trip → Option (Bool)) (p0 : S_fare_Cond) (p1 : Option S_fare_Trip) : Option (Bool) :=
  ((p1).bind fun (x3 : S_fare_Trip) => ((rec_fare_Cond_holds (S_fare_Cond.mk p0.Kind p0.A p0.B p0.Kids) x3).bind fun (x4 : Bool) => (some (!x4))))
def slices_IndexFunc_fare_Cond_fare_Cond_b1 (rec_fare_Cond_holds : S_fare_Cond → S_fare_Trip → Option (Bool)) (p1 : Option S_fare_Trip) (i4 : Nat) (x8 : S_fare_Cond) (s7 : Unit) : Option (Ctl (Unit) (Ctl (Unit) (Int))) :=
  ((fare_Cond_holds_2 rec_fare_Cond_holds (S_fare_Cond.mk x8.Kind x8.A x8.B x8.Kids) p1).bind fun (x9 : Bool) => (ifb x9 (some (.out (.out (i4 : Int)))) (some (.go ()))))
def slices_IndexFunc_fare_Cond_fare_Cond (rec_fare_Cond_holds : S_fare_Cond → S_fare_Trip → Option (Bool)) (p0 : List S_fare_Cond) (p1 : Option S_fare_Trip) : Option (Int) :=
  ((forX (slices_IndexFunc_fare_Cond_fare_Cond_b1 rec_fare_Cond_holds p1) p0 ()).bind fun c11 => Ctl.on c11 (fun s6 => (some (-1))) (fun r10 => (some r10)))
def slices_ContainsFunc_fare_Cond_fare_Cond (rec_fare_Cond_holds : S_fare_Cond → S_fare_Trip → Option (Bool)) (p0 : List S_fare_Cond) (p1 : Option S_fare_Trip) : Option (Bool) :=
  ((slices_IndexFunc_fare_Cond_fare_Cond rec_fare_Cond_holds p0 p1).bind fun (x2 : Int) => (some (decide (x2 ≥ 0))))
def fare_Cond_holds_3 (rec_fare_Cond_holds : S_fare_Cond → S_fare_Trip → Option (Bool)) (p0 : S_fare_Cond) (p1 : Option S_fare_Trip) : Option (Bool) :=
  ((p1).bind fun (x3 : S_fare_Trip) => ((rec_fare_Cond_holds (S_fare_Cond.mk p0.Kind p0.A p0.B p0.Kids) x3).bind fun (x4 : Bool) => (some x4)))
def slices_IndexFunc_fare_Cond_fare_Cond_v2_b1 (rec_fare_Cond_holds : S_fare_Cond → S_fare_Trip → Option (Bool)) (p1 : Option S_fare_Trip) (i4 : Nat) (x8 : S_fare_Cond) (s7 : Unit) : Option (Ctl (Unit) (Ctl (Unit) (Int))) :=
  ((fare_Cond_holds_3 rec_fare_Cond_holds (S_fare_Cond.mk x8.Kind x8.A x8.B x8.Kids) p1).bind fun (x9 : Bool) => (ifb x9 (some (.out (.out (i4 : Int)))) (some (.go ()))))
def slices_IndexFunc_fare_Cond_fare_Cond_v2 (rec_fare_Cond_holds : S_fare_Cond → S_fare_Trip → Option (Bool)) (p0 : List S_fare_Cond) (p1 : Option S_fare_Trip) : Option (Int) :=
  ((forX (slices_IndexFunc_fare_Cond_fare_Cond_v2_b1 rec_fare_Cond_holds p1) p0 ()).bind fun c11 => Ctl.on c11 (fun s6 => (some (-1))) (fun r10 => (some r10)))
def slices_ContainsFunc_fare_Cond_fare_Cond_v2 (rec_fare_Cond_holds : S_fare_Cond → S_fare_Trip → Option (Bool)) (p0 : List S_fare_Cond) (p1 : Option S_fare_Trip) : Option (Bool) :=
  ((slices_IndexFunc_fare_Cond_fare_Cond_v2 rec_fare_Cond_holds p0 p1).bind fun (x2 : Int) => (some (decide (x2 ≥ 0))))
def fare_Cond_holds_step (rec_ : S_fare_Cond → S_fare_Trip → Option (Bool)) (p0 : S_fare_Cond) (p1 : S_fare_Trip) : Option (Bool) :=
  (ifb (p0.Kind == 1) (some p1.Card) (ifb (p0.Kind == 2) ((fare_Cond_holds_1 p1.Age (some (S_fare_Cond.mk p0.Kind p0.A p0.B p0.Kids))).bind fun (x20 : Bool) => (some x20)) (ifb (p0.Kind == 3) ((fare_Cond_holds_1 p1.At (some (S_fare_Cond.mk p0.Kind p0.A p0.B p0.Kids))).bind fun (x21 : Bool) => (some x21)) (ifb (p0.Kind == 4) ((fare_Cond_holds_1 p1.Km (some (S_fare_Cond.mk p0.Kind p0.A p0.B p0.Kids))).bind fun (x22 : Bool) => (some x22)) (ifb (p0.Kind == 5) ((fare_Cond_holds_1 ((p1.Zones.length) : Int) (some (S_fare_Cond.mk p0.Kind p0.A p0.B p0.Kids))).bind fun (x23 : Bool) => (some x23)) (ifb (p0.Kind == 6) ((slices_Contains_int_int p1.Zones p0.A).bind fun (x24 : Bool) => (some x24)) (ifb (p0.Kind == 7) ((idx p1.Zones (0 : Int)).bind fun (x25 : Int) => (some (x25 == p0.A))) (ifb (p0.Kind == 8) ((idx p1.Zones (w64 (((p1.Zones.length) : Int) - 1))).bind fun (x26 : Int) => (some (x26 == p0.A))) (ifb (p0.Kind == 9) ((idx p0.Kids (0 : Int)).bind fun (x27 : S_fare_Cond) => ((rec_ (S_fare_Cond.mk x27.Kind x27.A x27.B x27.Kids) p1).bind fun (x28 : Bool) => (some (!x28)))) (ifb (p0.Kind == 10) ((slices_ContainsFunc_fare_Cond_fare_Cond rec_ p0.Kids (some p1)).bind fun (x29 : Bool) => (some (!x29))) (ifb (p0.Kind == 11) ((slices_ContainsFunc_fare_Cond_fare_Cond_v2 rec_ p0.Kids (some p1)).bind fun (x30 : Bool) => (some x30)) (some true))))))))))))
def fare_Cond_holds_n : Nat → S_fare_Cond → S_fare_Trip → Option (Bool)
  | 0 => fun _ _ => none
  | n + 1 => fare_Cond_holds_step (fare_Cond_holds_n n)
def fare_Cond_holds : S_fare_Cond → S_fare_Trip → Option (Bool) := fare_Cond_holds_n bigN
def fare_Rule_change (p0 : S_fare_Rule) (p1 : Int) : Option (Int) :=
  (ifb (p0.Do == 1) ((gquoK .i64 (w64 (p1 * p0.N)) 100).bind fun (q2 : Int) => (some (gmin 100000 q2))) (ifb (p0.Do == 2) (some (gmax 0 (w64 (p1 - p0.N)))) (ifb (p0.Do == 3) (some (gmin 100000 (w64 (p1 + p0.N)))) (ifb (p0.Do == 4) (some p0.N) (ifb (p0.Do == 5) (some (gmin p1 p0.N)) (some (gmax p1 p0.N)))))))
def fare_Tariff_price_b1 (p1 : S_fare_Trip) (i13 : Nat) (x17 : S_fare_Rule) (s16 : Int × List Int) : Option (Ctl (Int × List Int) (Ctl (Int × List Int) (Empty))) :=
  ((fare_Cond_holds (S_fare_Cond.mk x17.If.Kind x17.If.A x17.If.B x17.If.Kids) p1).bind fun (x18 : Bool) => (ifb (!x18) (some (.go (s16.1, s16.2))) ((gapp 8 s16.2 [(i13 : Int)]).bind fun (x19 : List Int) => ((fare_Rule_change (S_fare_Rule.mk (S_fare_Cond.mk x17.If.Kind x17.If.A x17.If.B x17.If.Kids) x17.Do x17.N x17.Stop) s16.1).bind fun (x20 : Int) => (ifb x17.Stop (some (.out (.go (x20, x19)))) (some (.go (x20, x19))))))))
def fare_Tariff_price (p0 : S_fare_Tariff) (p1 : S_fare_Trip) : Option (Int × List Int) :=
  ((ifb p0.ByKm (some p1.Km) (some ((p1.Zones.length) : Int))).bind fun (s9 : Int) => ((slices_IndexFunc_fare_Band_fare_Band p0.Bands (some s9)).bind fun (x10 : Int) => ((ifb (decide (x10 < 0)) (some (w64 (((p0.Bands.length) : Int) - 1))) (some x10)).bind fun (s11 : Int) => ((idx p0.Bands s11).bind fun (x12 : S_fare_Band) => ((forX (fare_Tariff_price_b1 p1) p0.Rules (x12.Price, ([] : List Int))).bind fun c23 => Ctl.on c23 (fun s15 => ((gquoK .i64 (w64 ((w64 (s15.1 + p0.Round)) - 1)) p0.Round).bind fun (q21 : Int) => (some (w64 (q21 * p0.Round), s15.2)))) (fun x_ => x_.elim))))))
def fare_Price (p0 : Bool) (p1 : List S_fare_Band) (p2 : Int) (p3 : List S_fare_Rule) (p4 : Int) (p5 : Int) (p6 : Int) (p7 : Int) (p8 : Bool) (p9 : List Int) : Option (Int × Int × List Int) :=
  ((fare_CheckTariff (S_fare_Tariff.mk p0 p1 p2 p3)).bind fun (x4 : Int) => (ifb (x4 != 0) (some (0, x4, ([] : List Int))) ((fare_CheckTrip (S_fare_Trip.mk p4 p5 p6 p7 p8 p9)).bind fun (x5 : Int) => (ifb (x5 != 0) (some (0, x5, ([] : List Int))) ((fare_Tariff_price (S_fare_Tariff.mk p0 p1 p2 p3) (S_fare_Trip.mk p4 p5 p6 p7 p8 p9)).bind fun (x6 : Int × List Int) => (some (x6.1, 0, x6.2)))))))
def fishkeep2_fares : Option (Bool) :=
  ((fare_Price false [(S_fare_Band.mk 3 500)] 1 [(S_fare_Rule.mk (S_fare_Cond.mk 1 0 0 ([] : List S_fare_Cond)) 2 7 false)] 0 0 0 0 true [1]).bind fun (x3 : Int × Int × List Int) => ((ifb (x3.2.1 == 0) (some (x3.1 == 493)) (some false)).bind fun (s4 : Bool) => (some s4)))
def fishref2_within (p0 : Int) (p1 : Int) (p2 : Int) : Option (Bool) :=
  ((ifb (decide (p0 ≥ p1)) (some (decide (p0 ≤ p2))) (some false)).bind fun (s2 : Bool) => (some s2))
def math_bits_Mul64 (p0 : Int) (p1 : Int) : Option (Int × Int) :=
  ((gshr .u64 p0 32).bind fun (q6 : Int) => ((gshr .u64 p1 32).bind fun (q7 : Int) => ((gshr .u64 (IntKind.u64.wrap ((iand .u64 p0 4294967295) * (iand .u64 p1 4294967295))) 32).bind fun (q8 : Int) => ((gshr .u64 (IntKind.u64.wrap ((IntKind.u64.wrap (q6 * (iand .u64 p1 4294967295))) + q8)) 32).bind fun (q9 : Int) => ((gshr .u64 (IntKind.u64.wrap ((iand .u64 (IntKind.u64.wrap ((IntKind.u64.wrap (q6 * (iand .u64 p1 4294967295))) + q8)) 4294967295) + (IntKind.u64.wrap ((iand .u64 p0 4294967295) * q7)))) 32).bind fun (q10 : Int) => (some (IntKind.u64.wrap ((IntKind.u64.wrap ((IntKind.u64.wrap (q6 * q7)) + q9)) + q10), IntKind.u64.wrap (p0 * p1))))))))
def math_bits_Mul (p0 : Int) (p1 : Int) : Option (Int × Int) :=
  ((math_bits_Mul64 p0 p1).bind fun (x2 : Int × Int) => (some (x2.1, x2.2)))
def slices_Repeat_int_int_b1 (s13 : Int × List Int) : Option (Ctl (Int × List Int) (Ctl (List Int) (Empty))) :=
  (ifb (decide (s13.1 < ((s13.2.length) : Int))) ((gcut s13.2 s13.1 (s13.2.length : Int)).bind fun (x14 : List Int) => ((gcut s13.2 0 s13.1).bind fun (x15 : List Int) => ((gcut s13.2 0 s13.1).bind fun (x16 : List Int) => ((gcut s13.2 s13.1 (s13.2.length : Int)).bind fun (x17 : List Int) => (some (.go (w64 (s13.1 + (min (x17.length : Int) (x16.length : Int))), (gcopy s13.2 s13.1.toNat x17.length x16)))))))) (some (.out (.go s13.2))))
def slices_Repeat_int_int (p0 : List Int) (p1 : Int) : Option (List Int) :=
  (ifb (decide (p1 < 0)) none ((math_bits_Mul (IntKind.u64.wrap ((p0.length) : Int)) (IntKind.u64.wrap p1)).bind fun (x7 : Int × Int) => ((ifb (decide (x7.1 > 0)) (some true) (some (decide (x7.2 > 9223372036854775807)))).bind fun (s8 : Bool) => (ifb s8 none ((gmake 8 (w64 x7.2) (0 : Int)).bind fun (x9 : List Int) => ((iter slices_Repeat_int_int_b1 (min (x9.length : Int) (p0.length : Int), (gcopy x9 0 x9.length p0))).bind fun c19 => Ctl.on c19 (fun s12 => (some s12)) (fun x_ => x_.elim)))))))
def fishref2_PackOf_b1 (p2 : Int) (i16 : Nat) (x20 : S_fare_Span) (s19 : Unit) : Option (Ctl (Unit) (Ctl (Unit) (Int × List Int))) :=
  ((ifb (decide (x20.From < 0)) (some true) (ifb (decide (x20.From ≥ x20.To)) (some true) (some (decide (x20.To ≥ p2))))).bind fun (s21 : Bool) => (ifb s21 (some (.out (.out (2, ([] : List Int))))) (some (.go ()))))
def fishref2_PackOf_b4 (p0 : List S_fare_Span) (x31 : S_fare_Span) (s30 : List Int) (s35 : Int × Int) : Option (Ctl (Int × Int) (Ctl (Int) (Empty))) :=
  (ifb (decide (s35.2 < ((p0.length) : Int))) ((((idx s30 s35.2).bind fun (x45 : Int) => (ifb (x45 == s35.1) ((idx p0 s35.2).bind fun (x46 : S_fare_Span) => (ifb (decide (x46.From < x31.To)) ((idx p0 s35.2).bind fun (x47 : S_fare_Span) => (some (decide (x31.From < x47.To)))) (some false))) (some false))).bind fun (s44 : Bool) => (ifb s44 (some (w64 (s35.1 + 1), (-1))) (some (s35.1, s35.2)))).bind fun (s40 : Int × Int) => (some (.go (s40.1, w64 (s40.2 + 1))))) (some (.out (.go s35.1))))
def fishref2_PackOf_b3 (p0 : List S_fare_Span) (p1 : Int) (i23 : Nat) (i27 : Nat) (x31 : S_fare_Span) (s30 : List Int) : Option (Ctl (List Int) (Ctl (List Int) (Int × List Int))) :=
  (ifb (x31.From != (i23 : Int)) (some (.go s30)) ((iter (fishref2_PackOf_b4 p0 x31 s30) (0, 0)).bind fun c50 => Ctl.on c50 (fun s34 => (ifb (decide (s34 ≥ p1)) (some (.out (.out (14, ([] : List Int))))) ((idx s30 (i27 : Int)).bind fun (x48 : Int) => (some (.go (setI s30 (i27 : Int) s34)))))) (fun x_ => x_.elim)))
def fishref2_PackOf_b2 (p0 : List S_fare_Span) (p1 : Int) (i23 : Nat) (s26 : List Int) : Option (Ctl (List Int) (Ctl (List Int) (Int × List Int))) :=
  ((forX (fishref2_PackOf_b3 p0 p1 i23) p0 s26).bind fun c52 => Ctl.on c52 (fun s29 => (some (.go s29))) (fun r51 => (some (.out (.out r51)))))
def fishref2_PackOf (p0 : List S_fare_Span) (p1 : Int) (p2 : Int) : Option (Int × List Int) :=
  (ifb (decide (((p0.length) : Int) > 200)) (some (4, ([] : List Int))) (((fishref2_within p1 1 80).bind fun (x14 : Bool) => (ifb (!x14) (some true) ((fishref2_within p2 2 12).bind fun (x15 : Bool) => (some (!x15))))).bind fun (s13 : Bool) => (ifb s13 (some (2, ([] : List Int))) ((forX (fishref2_PackOf_b1 p2) p0 ()).bind fun c56 => Ctl.on c56 (fun s18 => ((slices_Repeat_int_int [(-1)] ((p0.length) : Int)).bind fun (x22 : List Int) => ((glim p2).bind fun _ => ((forN (fishref2_PackOf_b2 p0 p1) (p2).toNat x22).bind fun c54 => Ctl.on c54 (fun s25 => (some (0, s25))) (fun r53 => (some r53)))))) (fun r55 => (some r55))))))
def fare_span (p0 : Int) (p1 : Int) (p2 : Int) : Option (Bool) :=
  ((ifb (decide (p0 ≥ 0)) (ifb (decide (p0 < p1)) (some (decide (p1 < p2))) (some false)) (some false)).bind fun (s2 : Bool) => (some s2))
def cmp_isNaN_int (p0 : Int) : Option (Bool) :=
  (some (p0 != p0))
def cmp_Compare_int (p0 : Int) (p1 : Int) : Option (Int) :=
  ((cmp_isNaN_int p0).bind fun (x3 : Bool) => ((cmp_isNaN_int p1).bind fun (x4 : Bool) => (ifb x3 (ifb x4 (some 0) (some (-1))) (ifb x4 (some 1) (ifb (decide (p0 < p1)) (some (-1)) (ifb (decide (p0 > p1)) (some 1) (some 0)))))))
def fare_Pack_1 (p0 : Int) (p1 : Int) (p2 : Option (List S_fare_Span)) : Option (Int) :=
  ((p2).bind fun (x6 : List S_fare_Span) => ((idx x6 p0).bind fun (x7 : S_fare_Span) => ((p2).bind fun (x8 : List S_fare_Span) => ((idx x8 p1).bind fun (x9 : S_fare_Span) => ((cmp_Compare_int x7.From x9.From).bind fun (x10 : Int) => (some x10))))))
def slices_insertionSortCmpFunc_int_b2 (p0 : Int) (p3 : Option (List S_fare_Span)) (s11 : Int × List Int) : Option (Ctl (Int × List Int) (Ctl (List Int) (Empty))) :=
  ((ifb (decide (s11.1 > p0)) ((idx s11.2 s11.1).bind fun (x16 : Int) => ((idx s11.2 (w64 (s11.1 - 1))).bind fun (x17 : Int) => ((fare_Pack_1 x16 x17 p3).bind fun (x18 : Int) => (some (decide (x18 < 0)))))) (some false)).bind fun (s15 : Bool) => (ifb s15 ((idx s11.2 (w64 (s11.1 - 1))).bind fun (x19 : Int) => ((idx s11.2 s11.1).bind fun (x20 : Int) => ((idx s11.2 s11.1).bind fun (x21 : Int) => ((idx (setI s11.2 s11.1 x19) (w64 (s11.1 - 1))).bind fun (x22 : Int) => (some (.go (w64 (s11.1 - 1), (setI (setI s11.2 s11.1 x19) (w64 (s11.1 - 1)) x20)))))))) (some (.out (.go s11.2)))))
def slices_insertionSortCmpFunc_int_b1 (p0 : Int) (p1 : Int) (p3 : Option (List S_fare_Span)) (s7 : Int × List Int) : Option (Ctl (Int × List Int) (Ctl (List Int) (Empty))) :=
  (ifb (decide (s7.1 < p1)) ((iter (slices_insertionSortCmpFunc_int_b2 p0 p3) (s7.1, s7.2)).bind fun c24 => Ctl.on c24 (fun s10 => (some (.go (w64 (s7.1 + 1), s10)))) (fun x_ => x_.elim)) (some (.out (.go s7.2))))
def slices_insertionSortCmpFunc_int (p0 : Int) (p1 : Int) (p2 : List Int) (p3 : Option (List S_fare_Span)) : Option (List Int) :=
  ((iter (slices_insertionSortCmpFunc_int_b1 p0 p1 p3) (w64 (p0 + 1), p2)).bind fun c26 => Ctl.on c26 (fun s6 => (some s6)) (fun x_ => x_.elim))
def slices_swapRangeCmpFunc_int_b1 (p0 : Int) (p1 : Int) (p2 : Int) (s7 : Int × List Int) : Option (Ctl (Int × List Int) (Ctl (List Int) (Empty))) :=
  (ifb (decide (s7.1 < p2)) ((idx s7.2 (w64 (p1 + s7.1))).bind fun (x8 : Int) => ((idx s7.2 (w64 (p0 + s7.1))).bind fun (x9 : Int) => ((idx s7.2 (w64 (p0 + s7.1))).bind fun (x10 : Int) => ((idx (setI s7.2 (w64 (p0 + s7.1)) x8) (w64 (p1 + s7.1))).bind fun (x11 : Int) => (some (.go (w64 (s7.1 + 1), (setI (setI s7.2 (w64 (p0 + s7.1)) x8) (w64 (p1 + s7.1)) x9)))))))) (some (.out (.go s7.2))))
def slices_swapRangeCmpFunc_int (p0 : Int) (p1 : Int) (p2 : Int) (p3 : List Int) (p4 : Option (List S_fare_Span)) : Option (List Int) :=
  ((iter (slices_swapRangeCmpFunc_int_b1 p0 p1 p2) (0, p3)).bind fun c13 => Ctl.on c13 (fun s6 => (some s6)) (fun x_ => x_.elim))
def slices_rotateCmpFunc_int_b1 (p1 : Int) (p4 : Option (List S_fare_Span)) (s8 : Int × Int × List Int) : Option (Ctl (Int × Int × List Int) (Ctl (Int × List Int) (Empty))) :=
  (ifb (s8.1 != s8.2.1) (ifb (decide (s8.1 > s8.2.1)) ((slices_swapRangeCmpFunc_int (w64 (p1 - s8.1)) p1 s8.2.1 s8.2.2 p4).bind fun (x9 : List Int) => (some (.go (w64 (s8.1 - s8.2.1), s8.2.1, x9)))) ((slices_swapRangeCmpFunc_int (w64 (p1 - s8.1)) (w64 ((w64 (p1 + s8.2.1)) - s8.1)) s8.1 s8.2.2 p4).bind fun (x10 : List Int) => (some (.go (s8.1, w64 (s8.2.1 - s8.1), x10))))) (some (.out (.go (s8.1, s8.2.2)))))
def slices_rotateCmpFunc_int (p0 : Int) (p1 : Int) (p2 : Int) (p3 : List Int) (p4 : Option (List S_fare_Span)) : Option (List Int) :=
  ((iter (slices_rotateCmpFunc_int_b1 p1 p4) (w64 (p1 - p0), w64 (p2 - p1), p3)).bind fun c13 => Ctl.on c13 (fun s7 => ((slices_swapRangeCmpFunc_int (w64 (p1 - s7.1)) p1 s7.1 s7.2 p4).bind fun (x11 : List Int) => (some x11))) (fun x_ => x_.elim))
def slices_symMergeCmpFunc_int_b1 (p0 : Int) (p3 : List Int) (p4 : Option (List S_fare_Span)) (s52 : Int × Int) : Option (Ctl (Int × Int) (Ctl (Int) (Empty))) :=
  (ifb (decide (s52.1 < s52.2)) ((gshr .u64 (IntKind.u64.wrap (w64 (s52.1 + s52.2))) 1).bind fun (q53 : Int) => ((idx p3 (w64 q53)).bind fun (x54 : Int) => ((idx p3 p0).bind fun (x55 : Int) => ((fare_Pack_1 x54 x55 p4).bind fun (x56 : Int) => (ifb (decide (x56 < 0)) (some (.go (w64 ((w64 q53) + 1), s52.2))) (some (.go (s52.1, w64 q53)))))))) (some (.out (.go s52.1))))
def slices_symMergeCmpFunc_int_b2 (s51 : Int) (s60 : Int × List Int) : Option (Ctl (Int × List Int) (Ctl (List Int) (Empty))) :=
  (ifb (decide (s60.1 < (w64 (s51 - 1)))) ((idx s60.2 (w64 (s60.1 + 1))).bind fun (x61 : Int) => ((idx s60.2 s60.1).bind fun (x62 : Int) => ((idx s60.2 s60.1).bind fun (x63 : Int) => ((idx (setI s60.2 s60.1 x61) (w64 (s60.1 + 1))).bind fun (x64 : Int) => (some (.go (w64 (s60.1 + 1), (setI (setI s60.2 s60.1 x61) (w64 (s60.1 + 1)) x62)))))))) (some (.out (.go s60.2))))
def slices_symMergeCmpFunc_int_b3 (p1 : Int) (p3 : List Int) (p4 : Option (List S_fare_Span)) (s72 : Int × Int) : Option (Ctl (Int × Int) (Ctl (Int) (Empty))) :=
  (ifb (decide (s72.1 < s72.2)) ((gshr .u64 (IntKind.u64.wrap (w64 (s72.1 + s72.2))) 1).bind fun (q73 : Int) => ((idx p3 p1).bind fun (x74 : Int) => ((idx p3 (w64 q73)).bind fun (x75 : Int) => ((fare_Pack_1 x74 x75 p4).bind fun (x76 : Int) => (ifb (!(decide (x76 < 0))) (some (.go (w64 ((w64 q73) + 1), s72.2))) (some (.go (s72.1, w64 q73)))))))) (some (.out (.go s72.1))))
def slices_symMergeCmpFunc_int_b4 (s71 : Int) (s80 : Int × List Int) : Option (Ctl (Int × List Int) (Ctl (List Int) (Empty))) :=
  (ifb (decide (s80.1 > s71)) ((idx s80.2 (w64 (s80.1 - 1))).bind fun (x81 : Int) => ((idx s80.2 s80.1).bind fun (x82 : Int) => ((idx s80.2 s80.1).bind fun (x83 : Int) => ((idx (setI s80.2 s80.1 x81) (w64 (s80.1 - 1))).bind fun (x84 : Int) => (some (.go (w64 (s80.1 - 1), (setI (setI s80.2 s80.1 x81) (w64 (s80.1 - 1)) x82)))))))) (some (.out (.go s80.2))))
def slices_symMergeCmpFunc_int_b5 (p1 : Int) (p3 : List Int) (p4 : Option (List S_fare_Span)) (q89 : Int) (s94 : Int × Int) : Option (Ctl (Int × Int) (Ctl (Int) (Empty))) :=
  (ifb (decide (s94.1 < s94.2)) ((gshr .u64 (IntKind.u64.wrap (w64 (s94.1 + s94.2))) 1).bind fun (q95 : Int) => ((idx p3 (w64 ((w64 ((w64 ((w64 q89) + p1)) - 1)) - (w64 q95)))).bind fun (x96 : Int) => ((idx p3 (w64 q95)).bind fun (x97 : Int) => ((fare_Pack_1 x96 x97 p4).bind fun (x98 : Int) => (ifb (!(decide (x98 < 0))) (some (.go (w64 ((w64 q95) + 1), s94.2))) (some (.go (s94.1, w64 q95)))))))) (some (.out (.go s94.1))))
def slices_symMergeCmpFunc_int_step (rec_ : Int → Int → Int → List Int → Option (List S_fare_Span) → Option (List Int)) (p0 : Int) (p1 : Int) (p2 : Int) (p3 : List Int) (p4 : Option (List S_fare_Span)) : Option (List Int) :=
  (ifb ((w64 (p1 - p0)) == 1) ((iter (slices_symMergeCmpFunc_int_b1 p0 p3 p4) (p1, p2)).bind fun c68 => Ctl.on c68 (fun s51 => ((iter (slices_symMergeCmpFunc_int_b2 s51) (p0, p3)).bind fun c66 => Ctl.on c66 (fun s59 => (some s59)) (fun x_ => x_.elim))) (fun x_ => x_.elim)) (ifb ((w64 (p2 - p1)) == 1) ((iter (slices_symMergeCmpFunc_int_b3 p1 p3 p4) (p0, p1)).bind fun c88 => Ctl.on c88 (fun s71 => ((iter (slices_symMergeCmpFunc_int_b4 s71) (p1, p3)).bind fun c86 => Ctl.on c86 (fun s79 => (some s79)) (fun x_ => x_.elim))) (fun x_ => x_.elim)) ((gshr .u64 (IntKind.u64.wrap (w64 (p0 + p2))) 1).bind fun (q89 : Int) => ((ifb (decide (p1 > (w64 q89))) (some (w64 ((w64 ((w64 q89) + p1)) - p2), w64 q89)) (some (p0, p1))).bind fun (s90 : Int × Int) => ((iter (slices_symMergeCmpFunc_int_b5 p1 p3 p4 q89) (s90.1, s90.2)).bind fun c112 => Ctl.on c112 (fun s93 => (((ifb (decide (s93 < p1)) (some (decide (p1 < (w64 ((w64 ((w64 q89) + p1)) - s93))))) (some false)).bind fun (s102 : Bool) => (ifb s102 ((slices_rotateCmpFunc_int s93 p1 (w64 ((w64 ((w64 q89) + p1)) - s93)) p3 p4).bind fun (x103 : List Int) => (some x103)) (some p3))).bind fun (s101 : List Int) => (((ifb (decide (p0 < s93)) (some (decide (s93 < (w64 q89)))) (some false)).bind fun (s107 : Bool) => (ifb s107 ((rec_ p0 s93 (w64 q89) s101 p4).bind fun (x108 : List Int) => (some x108)) (some s101))).bind fun (s106 : List Int) => ((ifb (decide ((w64 q89) < (w64 ((w64 ((w64 q89) + p1)) - s93)))) (some (decide ((w64 ((w64 ((w64 q89) + p1)) - s93)) < p2))) (some false)).bind fun (s109 : Bool) => (ifb s109 ((rec_ (w64 q89) (w64 ((w64 ((w64 q89) + p1)) - s93)) p2 s106 p4).bind fun (x110 : List Int) => (some x110)) (some s106)))))) (fun x_ => x_.elim))))))
def slices_symMergeCmpFunc_int_n : Nat → Int → Int → Int → List Int → Option (List S_fare_Span) → Option (List Int)
  | 0 => fun _ _ _ _ _ => none
  | n + 1 => slices_symMergeCmpFunc_int_step (slices_symMergeCmpFunc_int_n n)
def slices_symMergeCmpFunc_int : Int → Int → Int → List Int → Option (List S_fare_Span) → Option (List Int) := slices_symMergeCmpFunc_int_n bigN
def slices_stableCmpFunc_int_b1 (p0 : Int) (p2 : Option (List S_fare_Span)) (s11 : Int × Int × List Int) : Option (Ctl (Int × Int × List Int) (Ctl (Int × List Int) (Empty))) :=
  (ifb (decide (s11.2.1 ≤ p0)) ((slices_insertionSortCmpFunc_int s11.1 s11.2.1 s11.2.2 p2).bind fun (x12 : List Int) => (some (.go (s11.2.1, w64 (s11.2.1 + 20), x12)))) (some (.out (.go (s11.1, s11.2.2)))))
def slices_stableCmpFunc_int_b3 (p0 : Int) (p2 : Option (List S_fare_Span)) (s17 : Int × List Int) (s21 : Int × Int × List Int) : Option (Ctl (Int × Int × List Int) (Ctl (Int × List Int) (Empty))) :=
  (ifb (decide (s21.2.1 ≤ p0)) ((slices_symMergeCmpFunc_int s21.1 (w64 (s21.1 + s17.1)) s21.2.1 s21.2.2 p2).bind fun (x22 : List Int) => (some (.go (s21.2.1, w64 (s21.2.1 + (w64 (2 * s17.1))), x22)))) (some (.out (.go (s21.1, s21.2.2)))))
def slices_stableCmpFunc_int_b2 (p0 : Int) (p2 : Option (List S_fare_Span)) (s17 : Int × List Int) : Option (Ctl (Int × List Int) (Ctl (List Int) (Empty))) :=
  (ifb (decide (s17.1 < p0)) ((iter (slices_stableCmpFunc_int_b3 p0 p2 s17) (0, w64 (2 * s17.1), s17.2)).bind fun c27 => Ctl.on c27 (fun s20 => ((ifb (decide ((w64 (s20.1 + s17.1)) < p0)) ((slices_symMergeCmpFunc_int s20.1 (w64 (s20.1 + s17.1)) p0 s20.2 p2).bind fun (x25 : List Int) => (some x25)) (some s20.2)).bind fun (s24 : List Int) => (some (.go (w64 (s17.1 * 2), s24))))) (fun x_ => x_.elim)) (some (.out (.go s17.2))))
def slices_stableCmpFunc_int (p0 : Int) (p1 : List Int) (p2 : Option (List S_fare_Span)) : Option (List Int) :=
  ((iter (slices_stableCmpFunc_int_b1 p0 p2) (0, 20, p1)).bind fun c31 => Ctl.on c31 (fun s10 => ((slices_insertionSortCmpFunc_int s10.1 p0 s10.2 p2).bind fun (x13 : List Int) => ((iter (slices_stableCmpFunc_int_b2 p0 p2) (20, x13)).bind fun c29 => Ctl.on c29 (fun s16 => (some s16)) (fun x_ => x_.elim)))) (fun x_ => x_.elim))
def slices_SortStableFunc_int_int (p0 : List Int) (p1 : Option (List S_fare_Span)) : Option (List Int) :=
  ((slices_stableCmpFunc_int ((p0.length) : Int) p0 p1).bind fun (x2 : List Int) => (some x2))
def fare_Pack_2 (p0 : Int) (p1 : Option (List S_fare_Span)) (p2 : Option Int) : Option (Bool) :=
  ((p1).bind fun (x4 : List S_fare_Span) => ((p2).bind fun (x5 : Int) => ((idx x4 x5).bind fun (x6 : S_fare_Span) => (some (decide (p0 ≤ x6.From))))))
def slices_IndexFunc_int_int_b1 (p1 : Option (List S_fare_Span)) (p2 : Option Int) (i4 : Nat) (x8 : Int) (s7 : Unit) : Option (Ctl (Unit) (Ctl (Unit) (Int))) :=
  ((fare_Pack_2 x8 p1 p2).bind fun (x9 : Bool) => (ifb x9 (some (.out (.out (i4 : Int)))) (some (.go ()))))
def slices_IndexFunc_int_int (p0 : List Int) (p1 : Option (List S_fare_Span)) (p2 : Option Int) : Option (Int) :=
  ((forX (slices_IndexFunc_int_int_b1 p1 p2) p0 ()).bind fun c11 => Ctl.on c11 (fun s6 => (some (-1))) (fun r10 => (some r10)))
def fare_Pack_b1 (p2 : Int) (i20 : Nat) (x24 : S_fare_Span) (s23 : List Int) : Option (Ctl (List Int) (Ctl (List Int) (Int × List Int))) :=
  ((fare_span x24.From x24.To p2).bind fun (x25 : Bool) => (ifb (!x25) (some (.out (.out (2, ([] : List Int))))) ((idx s23 (i20 : Int)).bind fun (x26 : Int) => (some (.go (setI s23 (i20 : Int) (i20 : Int)))))))
def fare_Pack_b2 (p0 : List S_fare_Span) (i30 : Nat) (x34 : Int) (s33 : List Int × List Int) : Option (Ctl (List Int × List Int) (Ctl (List Int × List Int) (Int × List Int))) :=
  ((slices_IndexFunc_int_int s33.1 (some p0) (some x34)).bind fun (x35 : Int) => (ifb (decide (x35 < 0)) (some (.out (.out (14, ([] : List Int))))) ((idx p0 x34).bind fun (x36 : S_fare_Span) => ((idx s33.1 x35).bind fun (x37 : Int) => ((idx s33.2 x34).bind fun (x38 : Int) => (some (.go ((setI s33.1 x35 x36.To), (setI s33.2 x34 x35)))))))))
def fare_Pack (p0 : List S_fare_Span) (p1 : Int) (p2 : Int) : Option (Int × List Int) :=
  (ifb (decide (((p0.length) : Int) > 200)) (some (4, ([] : List Int))) (((fare_within p1 1 80).bind fun (x17 : Bool) => (ifb (!x17) (some true) ((fare_within p2 2 12).bind fun (x18 : Bool) => (some (!x18))))).bind fun (s16 : Bool) => (ifb s16 (some (2, ([] : List Int))) ((gmake 8 ((p0.length) : Int) (0 : Int)).bind fun (x19 : List Int) => ((forX (fare_Pack_b1 p2) p0 x19).bind fun c42 => Ctl.on c42 (fun s22 => ((slices_SortStableFunc_int_int s22 (some p0)).bind fun (x27 : List Int) => ((gmake 8 p1 (0 : Int)).bind fun (x28 : List Int) => ((gmake 8 ((p0.length) : Int) (0 : Int)).bind fun (x29 : List Int) => ((forX (fare_Pack_b2 p0) x27 (x28, x29)).bind fun c40 => Ctl.on c40 (fun s32 => (some (0, s32.2))) (fun r39 => (some r39))))))) (fun r41 => (some r41)))))))
def slices_Max_int_int_b1 (p0 : List Int) (s9 : Int × Int) : Option (Ctl (Int × Int) (Ctl (Int) (Empty))) :=
  (ifb (decide (s9.2 < ((p0.length) : Int))) ((idx p0 s9.2).bind fun (x10 : Int) => (some (.go (gmax s9.1 x10, w64 (s9.2 + 1))))) (some (.out (.go s9.1))))
def slices_Max_int_int (p0 : List Int) : Option (Int) :=
  (ifb (decide (((p0.length) : Int) < 1)) none ((idx p0 (0 : Int)).bind fun (x5 : Int) => ((iter (slices_Max_int_int_b1 p0) (x5, 1)).bind fun c12 => Ctl.on c12 (fun s8 => (some s8)) (fun x_ => x_.elim))))
def fishkeep2_FarePacked_b2 (i19 : Nat) (i23 : Nat) (x27 : S_fare_Span) (s26 : Int) : Option (Ctl (Int) (Ctl (Int) (Empty))) :=
  ((ifb (decide (x27.From ≤ (i19 : Int))) (some (decide ((i19 : Int) < x27.To))) (some false)).bind fun (s28 : Bool) => (ifb s28 (some (.go (w64 (s26 + 1)))) (some (.go s26))))
def fishkeep2_FarePacked_b1 (p0 : List S_fare_Span) (i19 : Nat) (s22 : Int) : Option (Ctl (Int) (Ctl (Int) (Empty))) :=
  ((forX (fishkeep2_FarePacked_b2 i19) p0 0).bind fun c30 => Ctl.on c30 (fun s25 => (some (.go (gmax s22 s25)))) (fun x_ => x_.elim))
def fishkeep2_FarePacked_b4 (x31 : Int × List Int) (i36 : Nat) (x40 : S_fare_Span) (i42 : Nat) (x46 : S_fare_Span) (s45 : Unit) : Option (Ctl (Unit) (Ctl (Unit) (Bool))) :=
  (((idx x31.2 (i36 : Int)).bind fun (x50 : Int) => ((idx x31.2 (i42 : Int)).bind fun (x51 : Int) => (ifb (x50 == x51) (ifb (decide (x40.From < x46.To)) (some (decide (x46.From < x40.To))) (some false)) (some false)))).bind fun (s49 : Bool) => (ifb s49 (some (.out (.out false))) (some (.go ()))))
def fishkeep2_FarePacked_b3 (p0 : List S_fare_Span) (x31 : Int × List Int) (i36 : Nat) (x40 : S_fare_Span) (s39 : Unit) : Option (Ctl (Unit) (Ctl (Unit) (Bool))) :=
  ((gcut p0 0 (i36 : Int)).bind fun (x41 : List S_fare_Span) => ((forX (fishkeep2_FarePacked_b4 x31 i36 x40) x41 ()).bind fun c53 => Ctl.on c53 (fun s44 => (some (.go ()))) (fun r52 => (some (.out (.out r52))))))
def fishkeep2_FarePacked (p0 : List S_fare_Span) (p1 : Int) (p2 : Int) : Option (Bool) :=
  ((fishkeep2_awakeFare).bind fun (x15 : Bool) => (ifb (!x15) (some false) ((fishkeep2_fares).bind fun (x16 : Bool) => (ifb (!x16) (some false) ((fishref2_PackOf p0 p1 p2).bind fun (x17 : Int × List Int) => ((ifb (x17.1 == 4) (some true) (some (x17.1 == 2))).bind fun (s18 : Bool) => (ifb s18 (some true) ((glim p2).bind fun _ => ((forN (fishkeep2_FarePacked_b1 p0) (p2).toNat 0).bind fun c57 => Ctl.on c57 (fun s21 => ((fare_Pack p0 p1 p2).bind fun (x31 : Int × List Int) => (ifb (decide (s21 > p1)) ((ifb (x31.1 == 14) (some (((x31.2.length) : Int) == 0)) (some false)).bind fun (s32 : Bool) => (some s32)) ((ifb (x31.1 != 0) (some true) (ifb (((x31.2.length) : Int) != ((p0.length) : Int)) (some true) (ifb (decide (((p0.length) : Int) > 0)) ((slices_Max_int_int x31.2).bind fun (x35 : Int) => (some (x35 != (w64 (s21 - 1))))) (some false)))).bind fun (s34 : Bool) => (ifb s34 (some false) ((forX (fishkeep2_FarePacked_b3 p0 x31) p0 ()).bind fun c55 => Ctl.on c55 (fun s38 => (some true)) (fun r54 => (some r54)))))))) (fun x_ => x_.elim))))))))))
end Hd
