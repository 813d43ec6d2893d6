/- Functions of the program as plain functions. Printed by a tool. -/
import Derived.Test.YtodbddhmfecbbaaGreatDoorG1
set_option linter.unusedVariables false
set_option linter.unusedSimpArgs false
set_option maxRecDepth 100000
set_option maxHeartbeats 4000000
namespace Hd
open Go Hk
structure S_fare_Band where
  Upto : Int
  Price : Int
structure S_fare_Cond where
  Kind : Int
  A : Int
  B : Int
  Kids : List S_fare_Cond
structure S_fare_Rule where
  If : S_fare_Cond
  Do : Int
  N : Int
  Stop : Bool
structure S_fare_Tariff where
  ByKm : Bool
  Bands : List S_fare_Band
  Round : Int
  Rules : List S_fare_Rule
structure S_fare_Trip where
  Day : Int
  At : Int
  Km : Int
  Age : Int
  Card : Bool
  Zones : List Int
structure S_fare_Pass where
  Days : Int
  Price : Int
  Zones : List Int
structure S_fare_Buy where
  Day : Int
  Pass : Int
def fishkeep2_awakeFare : Option Bool := some true
def fare_within (p0 : Int) (p1 : Int) (p2 : Int) : Option (Bool) :=
  ((ifb (decide (p0 ≥ p1)) (some (decide (p0 ≤ p2))) (some false)).bind fun (s2 : Bool) => (some s2))
def fare_Cond_size_b1 (rec_ : S_fare_Cond → Option (Int × Int)) (i7 : Nat) (x11 : S_fare_Cond) (s10 : Int × Int) : Option (Ctl (Int × Int) (Ctl (Int × Int) (Empty))) :=
  ((rec_ (S_fare_Cond.mk x11.Kind x11.A x11.B x11.Kids)).bind fun (x12 : Int × Int) => (some (.go (w64 (s10.1 + x12.1), gmax s10.2 x12.2))))
def fare_Cond_size_step (rec_ : S_fare_Cond → Option (Int × Int)) (p0 : S_fare_Cond) : Option (Int × Int) :=
  ((forX (fare_Cond_size_b1 rec_) p0.Kids (1, 0)).bind fun c14 => Ctl.on c14 (fun s9 => (some (s9.1, w64 (s9.2 + 1)))) (fun x_ => x_.elim))
def fare_Cond_size_n : Nat → S_fare_Cond → Option (Int × Int)
  | 0 => fun _ => none
  | n + 1 => fare_Cond_size_step (fare_Cond_size_n n)
def fare_Cond_size : S_fare_Cond → Option (Int × Int) := fare_Cond_size_n bigN
def fare_numbers (p0 : Int) : Option (Int) :=
  ((ifb (p0 == 2) (some (p0 == 2)) (ifb (p0 == 3) (some (p0 == 3)) (ifb (p0 == 4) (some (p0 == 4)) (some (p0 == 5))))).bind fun (s3 : Bool) => (ifb s3 (some 2) ((ifb (p0 == 6) (some (p0 == 6)) (ifb (p0 == 7) (some (p0 == 7)) (some (p0 == 8)))).bind fun (s4 : Bool) => (ifb s4 (some 1) (some 0)))))
def fare_Cond_node_b1 (rec_ : S_fare_Cond → Option (Int)) (i30 : Nat) (x34 : S_fare_Cond) (s33 : Unit) : Option (Ctl (Unit) (Ctl (Unit) (Int))) :=
  ((rec_ (S_fare_Cond.mk x34.Kind x34.A x34.B x34.Kids)).bind fun (x35 : Int) => (ifb (x35 != 0) (some (.out (.out x35))) (some (.go ()))))
def fare_Cond_node_step (rec_ : S_fare_Cond → Option (Int)) (p0 : S_fare_Cond) : Option (Int) :=
  ((fare_numbers p0.Kind).bind fun (x21 : Int) => ((fare_within p0.Kind 0 11).bind fun (x22 : Bool) => (ifb (!x22) (some 15) (((fare_within p0.A 0 28800).bind fun (x26 : Bool) => (ifb (!x26) (some true) ((fare_within p0.B 0 28800).bind fun (x27 : Bool) => (some (!x27))))).bind fun (s25 : Bool) => (ifb s25 (some 2) ((ifb (decide (x21 < 1)) (ifb (p0.A != 0) (some true) (ifb (decide (x21 < 2)) (ifb (p0.B != 0) (some true) (ifb (x21 == 2) (some (decide (p0.A > p0.B))) (some false))) (ifb (x21 == 2) (some (decide (p0.A > p0.B))) (some false)))) (ifb (decide (x21 < 2)) (ifb (p0.B != 0) (some true) (ifb (x21 == 2) (some (decide (p0.A > p0.B))) (some false))) (ifb (x21 == 2) (some (decide (p0.A > p0.B))) (some false)))).bind fun (s28 : Bool) => (ifb s28 (some 1) ((ifb (p0.Kind == 9) (ifb (((p0.Kids.length) : Int) != 1) (some true) (ifb (decide (p0.Kind > 9)) (ifb (decide (((p0.Kids.length) : Int) < 2)) (some true) (ifb (decide (p0.Kind < 9)) (some (decide (((p0.Kids.length) : Int) > 0))) (some false))) (ifb (decide (p0.Kind < 9)) (some (decide (((p0.Kids.length) : Int) > 0))) (some false)))) (ifb (decide (p0.Kind > 9)) (ifb (decide (((p0.Kids.length) : Int) < 2)) (some true) (ifb (decide (p0.Kind < 9)) (some (decide (((p0.Kids.length) : Int) > 0))) (some false))) (ifb (decide (p0.Kind < 9)) (some (decide (((p0.Kids.length) : Int) > 0))) (some false)))).bind fun (s29 : Bool) => (ifb s29 (some 1) ((forX (fare_Cond_node_b1 rec_) p0.Kids ()).bind fun c37 => Ctl.on c37 (fun s32 => (some 0)) (fun r36 => (some r36))))))))))))
def fare_Cond_node_n : Nat → S_fare_Cond → Option (Int)
  | 0 => fun _ => none
  | n + 1 => fare_Cond_node_step (fare_Cond_node_n n)
def fare_Cond_node : S_fare_Cond → Option (Int) := fare_Cond_node_n bigN
def fare_Cond_check (p0 : S_fare_Cond) : Option (Int) :=
  ((fare_Cond_size (S_fare_Cond.mk p0.Kind p0.A p0.B p0.Kids)).bind fun (x4 : Int × Int) => ((ifb (decide (x4.1 > 40)) (some true) (some (decide (x4.2 > 6)))).bind fun (s5 : Bool) => (ifb s5 (some 4) ((fare_Cond_node (S_fare_Cond.mk p0.Kind p0.A p0.B p0.Kids)).bind fun (x6 : Int) => (some x6)))))
def fare_CheckTariff_b1 (p0 : S_fare_Tariff) (i13 : Nat) (x17 : S_fare_Band) (s16 : Unit) : Option (Ctl (Unit) (Ctl (Unit) (Int))) :=
  (((fare_within x17.Upto 1 1000).bind fun (x21 : Bool) => (ifb (!x21) (some true) ((fare_within x17.Price 0 100000).bind fun (x22 : Bool) => (some (!x22))))).bind fun (s20 : Bool) => (ifb s20 (some (.out (.out 2))) ((ifb (decide ((i13 : Int) > 0)) ((idx p0.Bands (w64 ((i13 : Int) - 1))).bind fun (x26 : S_fare_Band) => (ifb (decide (x17.Upto ≤ x26.Upto)) (some true) ((idx p0.Bands (w64 ((i13 : Int) - 1))).bind fun (x27 : S_fare_Band) => (some (decide (x17.Price < x27.Price)))))) (some false)).bind fun (s25 : Bool) => (ifb s25 (some (.out (.out 1))) (some (.go ()))))))
def fare_CheckTariff_b2 (i29 : Nat) (x33 : S_fare_Rule) (s32 : Unit) : Option (Ctl (Unit) (Ctl (Unit) (Int))) :=
  ((fare_Cond_check (S_fare_Cond.mk x33.If.Kind x33.If.A x33.If.B x33.If.Kids)).bind fun (x34 : Int) => (ifb (x34 != 0) (some (.out (.out x34))) ((ifb (x33.Do == 1) (some 200) (some 100000)).bind fun (s35 : Int) => ((fare_within x33.Do 1 6).bind fun (x36 : Bool) => (ifb (!x36) (some (.out (.out 15))) ((fare_within x33.N 0 s35).bind fun (x37 : Bool) => (ifb (!x37) (some (.out (.out 2))) (some (.go ())))))))))
def fare_CheckTariff (p0 : S_fare_Tariff) : Option (Int) :=
  (((fare_within ((p0.Bands.length) : Int) 1 8).bind fun (x12 : Bool) => (ifb (!x12) (some true) (some (decide (((p0.Rules.length) : Int) > 20))))).bind fun (s11 : Bool) => (ifb s11 (some 4) ((forX (fare_CheckTariff_b1 p0) p0.Bands ()).bind fun c41 => Ctl.on c41 (fun s15 => ((fare_within p0.Round 1 100).bind fun (x28 : Bool) => (ifb (!x28) (some 2) ((forX fare_CheckTariff_b2 p0.Rules ()).bind fun c39 => Ctl.on c39 (fun s31 => (some 0)) (fun r38 => (some r38)))))) (fun r40 => (some r40)))))
def fare_checkZones_b1 (p0 : List Int) (p1 : Bool) (i4 : Nat) (x8 : Int) (s7 : Unit) : Option (Ctl (Unit) (Ctl (Unit) (Int))) :=
  ((fare_within x8 0 19).bind fun (x9 : Bool) => (ifb (!x9) (some (.out (.out 2))) ((ifb (decide ((i4 : Int) > 0)) ((idx p0 (w64 ((i4 : Int) - 1))).bind fun (x13 : Int) => (ifb (x8 == x13) (some true) (ifb p1 ((idx p0 (w64 ((i4 : Int) - 1))).bind fun (x14 : Int) => (some (decide (x8 < x14)))) (some false)))) (some false)).bind fun (s12 : Bool) => (ifb s12 (some (.out (.out 1))) (some (.go ()))))))
def fare_checkZones (p0 : List Int) (p1 : Bool) : Option (Int) :=
  ((forX (fare_checkZones_b1 p0 p1) p0 ()).bind fun c16 => Ctl.on c16 (fun s6 => (some 0)) (fun r15 => (some r15)))
def fare_CheckTrip (p0 : S_fare_Trip) : Option (Int) :=
  (((fare_within p0.Day 0 6).bind fun (x13 : Bool) => (ifb (!x13) (some true) ((fare_within p0.At 0 28800).bind fun (x14 : Bool) => (ifb (!x14) (some true) ((fare_within p0.Km 0 1000).bind fun (x15 : Bool) => (ifb (!x15) (some true) ((fare_within p0.Age 0 120).bind fun (x16 : Bool) => (some (!x16))))))))).bind fun (s12 : Bool) => (ifb s12 (some 2) ((fare_within ((p0.Zones.length) : Int) 1 10).bind fun (x17 : Bool) => (ifb (!x17) (some 4) ((fare_checkZones p0.Zones false).bind fun (x18 : Int) => (some x18))))))
def fare_Tariff_price_1 (p0 : S_fare_Band) (p1 : Option Int) : Option (Bool) :=
  ((p1).bind fun (x2 : Int) => (some (decide (p0.Upto ≥ x2))))
def slices_IndexFunc_fare_Band_fare_Band_b1 (p1 : Option Int) (i4 : Nat) (x8 : S_fare_Band) (s7 : Unit) : Option (Ctl (Unit) (Ctl (Unit) (Int))) :=
  ((fare_Tariff_price_1 x8 p1).bind fun (x9 : Bool) => (ifb x9 (some (.out (.out (i4 : Int)))) (some (.go ()))))
def slices_IndexFunc_fare_Band_fare_Band (p0 : List S_fare_Band) (p1 : Option Int) : Option (Int) :=
  ((forX (slices_IndexFunc_fare_Band_fare_Band_b1 p1) p0 ()).bind fun c11 => Ctl.on c11 (fun s6 => (some (-1))) (fun r10 => (some r10)))
def fare_Cond_holds_1 (p0 : Int) (p1 : Option S_fare_Cond) : Option (Bool) :=
  ((p1).bind fun (x4 : S_fare_Cond) => ((p1).bind fun (x5 : S_fare_Cond) => ((fare_within p0 x4.A x5.B).bind fun (x6 : Bool) => (some x6))))
def slices_Index_int_int_b1 (p1 : Int) (i4 : Nat) (x8 : Int) (s7 : Unit) : Option (Ctl (Unit) (Ctl (Unit) (Int))) :=
  (ifb (p1 == x8) (some (.out (.out (i4 : Int)))) (some (.go ())))
def slices_Index_int_int (p0 : List Int) (p1 : Int) : Option (Int) :=
  ((forX (slices_Index_int_int_b1 p1) p0 ()).bind fun c10 => Ctl.on c10 (fun s6 => (some (-1))) (fun r9 => (some r9)))
def slices_Contains_int_int (p0 : List Int) (p1 : Int) : Option (Bool) :=
  ((slices_Index_int_int p0 p1).bind fun (x2 : Int) => (some (decide (x2 ≥ 0))))
def fare_Cond_holds_2 (rec_fare_Cond_holds : S_fare_Cond → S_fare_Trip → Option (Bool)) (p0 : S_fare_Cond) (p1 : Option S_fare_Trip) : Option (Bool) :=
  ((p1).bind fun (x3 : S_fare_Trip) => ((rec_fare_Cond_holds (S_fare_Cond.mk p0.Kind p0.A p0.B p0.Kids) x3).bind fun (x4 : Bool) => (some (!x4))))
def slices_IndexFunc_fare_Cond_fare_Cond_b1 (rec_fare_Cond_holds : S_fare_Cond → S_fare_Trip → Option (Bool)) (p1 : Option S_fare_Trip) (i4 : Nat) (x8 : S_fare_Cond) (s7 : Unit) : Option (Ctl (Unit) (Ctl (Unit) (Int))) :=
  ((fare_Cond_holds_2 rec_fare_Cond_holds (S_fare_Cond.mk x8.Kind x8.A x8.B x8.Kids) p1).bind fun (x9 : Bool) => (ifb x9 (some (.out (.out (i4 : Int)))) (some (.go ()))))
def slices_IndexFunc_fare_Cond_fare_Cond (rec_fare_Cond_holds : S_fare_Cond → S_fare_Trip → Option (Bool)) (p0 : List S_fare_Cond) (p1 : Option S_fare_Trip) : Option (Int) :=
  ((forX (slices_IndexFunc_fare_Cond_fare_Cond_b1 rec_fare_Cond_holds p1) p0 ()).bind fun c11 => Ctl.on c11 (fun s6 => (some (-1))) (fun r10 => (some r10)))
def slices_ContainsFunc_fare_Cond_fare_Cond (rec_fare_Cond_holds : S_fare_Cond → S_fare_Trip → Option (Bool)) (p0 : List S_fare_Cond) (p1 : Option S_fare_Trip) : Option (Bool) :=
  ((slices_IndexFunc_fare_Cond_fare_Cond rec_fare_Cond_holds p0 p1).bind fun (x2 : Int) => (some (decide (x2 ≥ 0))))
def fare_Cond_holds_3 (rec_fare_Cond_holds : S_fare_Cond → S_fare_Trip → Option (Bool)) (p0 : S_fare_Cond) (p1 : Option S_fare_Trip) : Option (Bool) :=
  ((p1).bind fun (x3 : S_fare_Trip) => ((rec_fare_Cond_holds (S_fare_Cond.mk p0.Kind p0.A p0.B p0.Kids) x3).bind fun (x4 : Bool) => (some x4)))
def slices_IndexFunc_fare_Cond_fare_Cond_v2_b1 (rec_fare_Cond_holds : S_fare_Cond → S_fare_Trip → Option (Bool)) (p1 : Option S_fare_Trip) (i4 : Nat) (x8 : S_fare_Cond) (s7 : Unit) : Option (Ctl (Unit) (Ctl (Unit) (Int))) :=
  ((fare_Cond_holds_3 rec_fare_Cond_holds (S_fare_Cond.mk x8.Kind x8.A x8.B x8.Kids) p1).bind fun (x9 : Bool) => (ifb x9 (some (.out (.out (i4 : Int)))) (some (.go ()))))
def slices_IndexFunc_fare_Cond_fare_Cond_v2 (rec_fare_Cond_holds : S_fare_Cond → S_fare_Trip → Option (Bool)) (p0 : List S_fare_Cond) (p1 : Option S_fare_Trip) : Option (Int) :=
  ((forX (slices_IndexFunc_fare_Cond_fare_Cond_v2_b1 rec_fare_Cond_holds p1) p0 ()).bind fun c11 => Ctl.on c11 (fun s6 => (some (-1))) (fun r10 => (some r10)))
def slices_ContainsFunc_fare_Cond_fare_Cond_v2 (rec_fare_Cond_holds : S_fare_Cond → S_fare_Trip → Option (Bool)) (p0 : List S_fare_Cond) (p1 : Option S_fare_Trip) : Option (Bool) :=
  ((slices_IndexFunc_fare_Cond_fare_Cond_v2 rec_fare_Cond_holds p0 p1).bind fun (x2 : Int) => (some (decide (x2 ≥ 0))))
def fare_Cond_holds_step (rec_ : S_fare_Cond → S_fare_Trip → Option (Bool)) (p0 : S_fare_Cond) (p1 : S_fare_Trip) : Option (Bool) :=
  (ifb (p0.Kind == 1) (some p1.Card) (ifb (p0.Kind == 2) ((fare_Cond_holds_1 p1.Age (some (S_fare_Cond.mk p0.Kind p0.A p0.B p0.Kids))).bind fun (x20 : Bool) => (some x20)) (ifb (p0.Kind == 3) ((fare_Cond_holds_1 p1.At (some (S_fare_Cond.mk p0.Kind p0.A p0.B p0.Kids))).bind fun (x21 : Bool) => (some x21)) (ifb (p0.Kind == 4) ((fare_Cond_holds_1 p1.Km (some (S_fare_Cond.mk p0.Kind p0.A p0.B p0.Kids))).bind fun (x22 : Bool) => (some x22)) (ifb (p0.Kind == 5) ((fare_Cond_holds_1 ((p1.Zones.length) : Int) (some (S_fare_Cond.mk p0.Kind p0.A p0.B p0.Kids))).bind fun (x23 : Bool) => (some x23)) (ifb (p0.Kind == 6) ((slices_Contains_int_int p1.Zones p0.A).bind fun (x24 : Bool) => (some x24)) (ifb (p0.Kind == 7) ((idx p1.Zones (0 : Int)).bind fun (x25 : Int) => (some (x25 == p0.A))) (ifb (p0.Kind == 8) ((idx p1.Zones (w64 (((p1.Zones.length) : Int) - 1))).bind fun (x26 : Int) => (some (x26 == p0.A))) (ifb (p0.Kind == 9) ((idx p0.Kids (0 : Int)).bind fun (x27 : S_fare_Cond) => ((rec_ (S_fare_Cond.mk x27.Kind x27.A x27.B x27.Kids) p1).bind fun (x28 : Bool) => (some (!x28)))) (ifb (p0.Kind == 10) ((slices_ContainsFunc_fare_Cond_fare_Cond rec_ p0.Kids (some p1)).bind fun (x29 : Bool) => (some (!x29))) (ifb (p0.Kind == 11) ((slices_ContainsFunc_fare_Cond_fare_Cond_v2 rec_ p0.Kids (some p1)).bind fun (x30 : Bool) => (some x30)) (some true))))))))))))
def fare_Cond_holds_n : Nat → S_fare_Cond → S_fare_Trip → Option (Bool)
  | 0 => fun _ _ => none
  | n + 1 => fare_Cond_holds_step (fare_Cond_holds_n n)
def fare_Cond_holds : S_fare_Cond → S_fare_Trip → Option (Bool) := fare_Cond_holds_n bigN
def fare_Rule_change (p0 : S_fare_Rule) (p1 : Int) : Option (Int) :=
  (ifb (p0.Do == 1) ((gquoK .i64 (w64 (p1 * p0.N)) 100).bind fun (q2 : Int) => (some (gmin 100000 q2))) (ifb (p0.Do == 2) (some (gmax 0 (w64 (p1 - p0.N)))) (ifb (p0.Do == 3) (some (gmin 100000 (w64 (p1 + p0.N)))) (ifb (p0.Do == 4) (some p0.N) (ifb (p0.Do == 5) (some (gmin p1 p0.N)) (some (gmax p1 p0.N)))))))
def fare_Tariff_price_b1 (p1 : S_fare_Trip) (i13 : Nat) (x17 : S_fare_Rule) (s16 : Int × List Int) : Option (Ctl (Int × List Int) (Ctl (Int × List Int) (Empty))) :=
  ((fare_Cond_holds (S_fare_Cond.mk x17.If.Kind x17.If.A x17.If.B x17.If.Kids) p1).bind fun (x18 : Bool) => (ifb (!x18) (some (.go (s16.1, s16.2))) ((gapp 8 s16.2 [(i13 : Int)]).bind fun (x19 : List Int) => ((fare_Rule_change (S_fare_Rule.mk (S_fare_Cond.mk x17.If.Kind x17.If.A x17.If.B x17.If.Kids) x17.Do x17.N x17.Stop) s16.1).bind fun (x20 : Int) => (ifb x17.Stop (some (.out (.go (x20, x19)))) (some (.go (x20, x19))))))))
def fare_Tariff_price (p0 : S_fare_Tariff) (p1 : S_fare_Trip) : Option (Int × List Int) :=
  ((ifb p0.ByKm (some p1.Km) (some ((p1.Zones.length) : Int))).bind fun (s9 : Int) => ((slices_IndexFunc_fare_Band_fare_Band p0.Bands (some s9)).bind fun (x10 : Int) => ((ifb (decide (x10 < 0)) (some (w64 (((p0.Bands.length) : Int) - 1))) (some x10)).bind fun (s11 : Int) => ((idx p0.Bands s11).bind fun (x12 : S_fare_Band) => ((forX (fare_Tariff_price_b1 p1) p0.Rules (x12.Price, ([] : List Int))).bind fun c23 => Ctl.on c23 (fun s15 => ((gquoK .i64 (w64 ((w64 (s15.1 + p0.Round)) - 1)) p0.Round).bind fun (q21 : Int) => (some (w64 (q21 * p0.Round), s15.2)))) (fun x_ => x_.elim))))))
def fare_Price (p0 : Bool) (p1 : List S_fare_Band) (p2 : Int) (p3 : List S_fare_Rule) (p4 : Int) (p5 : Int) (p6 : Int) (p7 : Int) (p8 : Bool) (p9 : List Int) : Option (Int × Int × List Int) :=
  ((fare_CheckTariff (S_fare_Tariff.mk p0 p1 p2 p3)).bind fun (x4 : Int) => (ifb (x4 != 0) (some (0, x4, ([] : List Int))) ((fare_CheckTrip (S_fare_Trip.mk p4 p5 p6 p7 p8 p9)).bind fun (x5 : Int) => (ifb (x5 != 0) (some (0, x5, ([] : List Int))) ((fare_Tariff_price (S_fare_Tariff.mk p0 p1 p2 p3) (S_fare_Trip.mk p4 p5 p6 p7 p8 p9)).bind fun (x6 : Int × List Int) => (some (x6.1, 0, x6.2)))))))
def fishkeep2_fares : Option (Bool) :=
  ((fare_Price false [(S_fare_Band.mk 3 500)] 1 [(S_fare_Rule.mk (S_fare_Cond.mk 1 0 0 ([] : List S_fare_Cond)) 2 7 false)] 0 0 0 0 true [1]).bind fun (x3 : Int × Int × List Int) => ((ifb (x3.2.1 == 0) (some (x3.1 == 493)) (some false)).bind fun (s4 : Bool) => (some s4)))
def fishref2_within (p0 : Int) (p1 : Int) (p2 : Int) : Option (Bool) :=
  ((ifb (decide (p0 ≥ p1)) (some (decide (p0 ≤ p2))) (some false)).bind fun (s2 : Bool) => (some s2))
def fishref2_shape_b1 (rec_ : S_fare_Cond → Int → Option (Int × Int)) (i7 : Nat) (x11 : S_fare_Cond) (s10 : Int × Int) : Option (Ctl (Int × Int) (Ctl (Int × Int) (Empty))) :=
  ((rec_ (S_fare_Cond.mk x11.Kind x11.A x11.B x11.Kids) s10.2).bind fun (x12 : Int × Int) => (ifb (decide (x12.2 < 0)) (some (.out (.go (gmax s10.1 x12.1, x12.2)))) (some (.go (gmax s10.1 x12.1, x12.2)))))
def fishref2_shape_step (rec_ : S_fare_Cond → Int → Option (Int × Int)) (p0 : S_fare_Cond) (p1 : Int) : Option (Int × Int) :=
  (ifb (decide ((w64 (p1 - 1)) < 0)) (some (1, w64 (p1 - 1))) ((forX (fishref2_shape_b1 rec_) p0.Kids (0, w64 (p1 - 1))).bind fun c14 => Ctl.on c14 (fun s9 => (some (w64 (s9.1 + 1), s9.2))) (fun x_ => x_.elim)))
def fishref2_shape_n : Nat → S_fare_Cond → Int → Option (Int × Int)
  | 0 => fun _ _ => none
  | n + 1 => fishref2_shape_step (fishref2_shape_n n)
def fishref2_shape : S_fare_Cond → Int → Option (Int × Int) := fishref2_shape_n bigN
def fishref2_numbersOf (p0 : Int) : Option (Int) :=
  ((ifb (p0 == 2) (some (p0 == 2)) (ifb (p0 == 3) (some (p0 == 3)) (ifb (p0 == 4) (some (p0 == 4)) (some (p0 == 5))))).bind fun (s3 : Bool) => (ifb s3 (some 2) ((ifb (p0 == 6) (some (p0 == 6)) (ifb (p0 == 7) (some (p0 == 7)) (some (p0 == 8)))).bind fun (s4 : Bool) => (ifb s4 (some 1) (some 0)))))
def fishref2_nodeFault_b1 (rec_ : S_fare_Cond → Option (Int)) (i34 : Nat) (x38 : S_fare_Cond) (s37 : Unit) : Option (Ctl (Unit) (Ctl (Unit) (Int))) :=
  ((rec_ (S_fare_Cond.mk x38.Kind x38.A x38.B x38.Kids)).bind fun (x39 : Int) => (ifb (x39 != 0) (some (.out (.out x39))) (some (.go ()))))
def fishref2_nodeFault_step (rec_ : S_fare_Cond → Option (Int)) (p0 : S_fare_Cond) : Option (Int) :=
  ((fishref2_within p0.Kind 0 11).bind fun (x23 : Bool) => (ifb (!x23) (some 15) (((fishref2_within p0.A 0 28800).bind fun (x27 : Bool) => (ifb (!x27) (some true) ((fishref2_within p0.B 0 28800).bind fun (x28 : Bool) => (some (!x28))))).bind fun (s26 : Bool) => (ifb s26 (some 2) ((fishref2_numbersOf p0.Kind).bind fun (x29 : Int) => ((ifb (decide (x29 < 1)) (ifb (p0.A != 0) (some true) (ifb (decide (x29 < 2)) (ifb (p0.B != 0) (some true) (ifb (x29 == 2) (some (decide (p0.A > p0.B))) (some false))) (ifb (x29 == 2) (some (decide (p0.A > p0.B))) (some false)))) (ifb (decide (x29 < 2)) (ifb (p0.B != 0) (some true) (ifb (x29 == 2) (some (decide (p0.A > p0.B))) (some false))) (ifb (x29 == 2) (some (decide (p0.A > p0.B))) (some false)))).bind fun (s30 : Bool) => (ifb s30 (some 1) (((ifb (p0.Kind == 9) (ifb (((p0.Kids.length) : Int) != 1) (some (.out 1)) (some (.go ()))) ((ifb (p0.Kind == 10) (some (p0.Kind == 10)) (some (p0.Kind == 11))).bind fun (s33 : Bool) => (ifb s33 (ifb (decide (((p0.Kids.length) : Int) < 2)) (some (.out 1)) (some (.go ()))) (ifb (decide (((p0.Kids.length) : Int) > 0)) (some (.out 1)) (some (.go ())))))) : Option (Ctl (Unit) (Int))).bind fun c43 => Ctl.on c43 (fun s32 => ((forX (fishref2_nodeFault_b1 rec_) p0.Kids ()).bind fun c41 => Ctl.on c41 (fun s36 => (some 0)) (fun r40 => (some r40)))) (fun r42 => (some r42))))))))))
def fishref2_nodeFault_n : Nat → S_fare_Cond → Option (Int)
  | 0 => fun _ => none
  | n + 1 => fishref2_nodeFault_step (fishref2_nodeFault_n n)
def fishref2_nodeFault : S_fare_Cond → Option (Int) := fishref2_nodeFault_n bigN
def fishref2_CondFault (p0 : S_fare_Cond) : Option (Int) :=
  ((fishref2_shape (S_fare_Cond.mk p0.Kind p0.A p0.B p0.Kids) 40).bind fun (x4 : Int × Int) => ((ifb (decide (x4.2 < 0)) (some true) (some (decide (x4.1 > 6)))).bind fun (s5 : Bool) => (ifb s5 (some 4) ((fishref2_nodeFault (S_fare_Cond.mk p0.Kind p0.A p0.B p0.Kids)).bind fun (x6 : Int) => (some x6)))))
def fishref2_TariffFault_b1 (p0 : S_fare_Tariff) (i13 : Nat) (x17 : S_fare_Band) (s16 : Unit) : Option (Ctl (Unit) (Ctl (Unit) (Int))) :=
  (((fishref2_within x17.Upto 1 1000).bind fun (x21 : Bool) => (ifb (!x21) (some true) ((fishref2_within x17.Price 0 100000).bind fun (x22 : Bool) => (some (!x22))))).bind fun (s20 : Bool) => (ifb s20 (some (.out (.out 2))) ((ifb (decide ((i13 : Int) > 0)) ((idx p0.Bands (w64 ((i13 : Int) - 1))).bind fun (x26 : S_fare_Band) => (ifb (decide (x17.Upto ≤ x26.Upto)) (some true) ((idx p0.Bands (w64 ((i13 : Int) - 1))).bind fun (x27 : S_fare_Band) => (some (decide (x17.Price < x27.Price)))))) (some false)).bind fun (s25 : Bool) => (ifb s25 (some (.out (.out 1))) (some (.go ()))))))
def fishref2_TariffFault_b2 (i29 : Nat) (x33 : S_fare_Rule) (s32 : Unit) : Option (Ctl (Unit) (Ctl (Unit) (Int))) :=
  ((fishref2_CondFault (S_fare_Cond.mk x33.If.Kind x33.If.A x33.If.B x33.If.Kids)).bind fun (x34 : Int) => (ifb (x34 != 0) (some (.out (.out x34))) ((fishref2_within x33.Do 1 6).bind fun (x35 : Bool) => (ifb (!x35) (some (.out (.out 15))) ((ifb (x33.Do == 1) (some 200) (some 100000)).bind fun (s36 : Int) => ((fishref2_within x33.N 0 s36).bind fun (x37 : Bool) => (ifb (!x37) (some (.out (.out 2))) (some (.go ())))))))))
def fishref2_TariffFault (p0 : S_fare_Tariff) : Option (Int) :=
  (((fishref2_within ((p0.Bands.length) : Int) 1 8).bind fun (x12 : Bool) => (ifb (!x12) (some true) (some (decide (((p0.Rules.length) : Int) > 20))))).bind fun (s11 : Bool) => (ifb s11 (some 4) ((forX (fishref2_TariffFault_b1 p0) p0.Bands ()).bind fun c41 => Ctl.on c41 (fun s15 => ((fishref2_within p0.Round 1 100).bind fun (x28 : Bool) => (ifb (!x28) (some 2) ((forX fishref2_TariffFault_b2 p0.Rules ()).bind fun c39 => Ctl.on c39 (fun s31 => (some 0)) (fun r38 => (some r38)))))) (fun r40 => (some r40)))))
def fishref2_TripFault_b1 (p0 : S_fare_Trip) (i20 : Nat) (x24 : Int) (s23 : Unit) : Option (Ctl (Unit) (Ctl (Unit) (Int))) :=
  ((fishref2_within x24 0 19).bind fun (x25 : Bool) => (ifb (!x25) (some (.out (.out 2))) ((ifb (decide ((i20 : Int) > 0)) ((idx p0.Zones (w64 ((i20 : Int) - 1))).bind fun (x28 : Int) => (some (x24 == x28))) (some false)).bind fun (s27 : Bool) => (ifb s27 (some (.out (.out 1))) (some (.go ()))))))
def fishref2_TripFault (p0 : S_fare_Trip) : Option (Int) :=
  (((fishref2_within p0.Day 0 6).bind fun (x15 : Bool) => (ifb (!x15) (some true) ((fishref2_within p0.At 0 28800).bind fun (x16 : Bool) => (ifb (!x16) (some true) ((fishref2_within p0.Km 0 1000).bind fun (x17 : Bool) => (ifb (!x17) (some true) ((fishref2_within p0.Age 0 120).bind fun (x18 : Bool) => (some (!x18))))))))).bind fun (s14 : Bool) => (ifb s14 (some 2) ((fishref2_within ((p0.Zones.length) : Int) 1 10).bind fun (x19 : Bool) => (ifb (!x19) (some 4) ((forX (fishref2_TripFault_b1 p0) p0.Zones ()).bind fun c30 => Ctl.on c30 (fun s22 => (some 0)) (fun r29 => (some r29)))))))
def fishref2_CheapestFault_b1 (i11 : Nat) (x15 : S_fare_Trip) (s14 : Unit) : Option (Ctl (Unit) (Ctl (Unit) (Int))) :=
  ((fishref2_TripFault x15).bind fun (x16 : Int) => (ifb (x16 != 0) (some (.out (.out x16))) (some (.go ()))))
def fishref2_CheapestFault_b3 (x21 : S_fare_Pass) (i27 : Nat) (x31 : Int) (s30 : Unit) : Option (Ctl (Unit) (Ctl (Unit) (Int))) :=
  ((fishref2_within x31 0 19).bind fun (x32 : Bool) => (ifb (!x32) (some (.out (.out 2))) ((ifb (decide ((i27 : Int) > 0)) ((idx x21.Zones (w64 ((i27 : Int) - 1))).bind fun (x35 : Int) => (some (decide (x31 ≤ x35)))) (some false)).bind fun (s34 : Bool) => (ifb s34 (some (.out (.out 1))) (some (.go ()))))))
def fishref2_CheapestFault_b2 (i17 : Nat) (x21 : S_fare_Pass) (s20 : Unit) : Option (Ctl (Unit) (Ctl (Unit) (Int))) :=
  (((fishref2_within x21.Days 1 7).bind fun (x25 : Bool) => (ifb (!x25) (some true) ((fishref2_within x21.Price 0 100000).bind fun (x26 : Bool) => (some (!x26))))).bind fun (s24 : Bool) => (ifb s24 (some (.out (.out 2))) ((forX (fishref2_CheapestFault_b3 x21) x21.Zones ()).bind fun c37 => Ctl.on c37 (fun s29 => (some (.go ()))) (fun r36 => (some (.out (.out r36)))))))
def fishref2_CheapestFault (p0 : S_fare_Tariff) (p1 : List S_fare_Trip) (p2 : List S_fare_Pass) : Option (Int) :=
  ((fishref2_TariffFault p0).bind fun (x9 : Int) => (ifb (x9 != 0) (some x9) ((ifb (decide (((p1.length) : Int) > 12)) (some true) (some (decide (((p2.length) : Int) > 2)))).bind fun (s10 : Bool) => (ifb s10 (some 4) ((forX fishref2_CheapestFault_b1 p1 ()).bind fun c41 => Ctl.on c41 (fun s13 => ((forX fishref2_CheapestFault_b2 p2 ()).bind fun c39 => Ctl.on c39 (fun s19 => (some 0)) (fun r38 => (some r38)))) (fun r40 => (some r40)))))))
def fare_Pass_covers_1 (p0 : Int) (p1 : Option S_fare_Pass) : Option (Bool) :=
  ((p1).bind fun (x3 : S_fare_Pass) => ((slices_Contains_int_int x3.Zones p0).bind fun (x4 : Bool) => (some (!x4))))
def slices_IndexFunc_int_int_b1 (p1 : Option S_fare_Pass) (i4 : Nat) (x8 : Int) (s7 : Unit) : Option (Ctl (Unit) (Ctl (Unit) (Int))) :=
  ((fare_Pass_covers_1 x8 p1).bind fun (x9 : Bool) => (ifb x9 (some (.out (.out (i4 : Int)))) (some (.go ()))))
def slices_IndexFunc_int_int (p0 : List Int) (p1 : Option S_fare_Pass) : Option (Int) :=
  ((forX (slices_IndexFunc_int_int_b1 p1) p0 ()).bind fun c11 => Ctl.on c11 (fun s6 => (some (-1))) (fun r10 => (some r10)))
def slices_ContainsFunc_int_int (p0 : List Int) (p1 : Option S_fare_Pass) : Option (Bool) :=
  ((slices_IndexFunc_int_int p0 p1).bind fun (x2 : Int) => (some (decide (x2 ≥ 0))))
def fare_Pass_covers (p0 : S_fare_Pass) (p1 : Int) (p2 : S_fare_Trip) : Option (Bool) :=
  (((fare_within p2.Day p1 (w64 ((w64 (p1 + p0.Days)) - 1))).bind fun (x7 : Bool) => (ifb x7 ((slices_ContainsFunc_int_int p2.Zones (some p0)).bind fun (x8 : Bool) => (some (!x8))) (some false))).bind fun (s6 : Bool) => (some s6))
def fare_Cheapest_1 (p0 : S_fare_Buy) (p1 : Option (List S_fare_Pass)) (p2 : Option S_fare_Trip) : Option (Bool) :=
  ((p1).bind fun (x5 : List S_fare_Pass) => ((idx x5 p0.Pass).bind fun (x6 : S_fare_Pass) => ((p2).bind fun (x7 : S_fare_Trip) => ((fare_Pass_covers x6 p0.Day x7).bind fun (x8 : Bool) => (some x8)))))
def slices_IndexFunc_fare_Buy_fare_Buy_b1 (p1 : Option (List S_fare_Pass)) (p2 : Option S_fare_Trip) (i4 : Nat) (x8 : S_fare_Buy) (s7 : Unit) : Option (Ctl (Unit) (Ctl (Unit) (Int))) :=
  ((fare_Cheapest_1 x8 p1 p2).bind fun (x9 : Bool) => (ifb x9 (some (.out (.out (i4 : Int)))) (some (.go ()))))
def slices_IndexFunc_fare_Buy_fare_Buy (p0 : List S_fare_Buy) (p1 : Option (List S_fare_Pass)) (p2 : Option S_fare_Trip) : Option (Int) :=
  ((forX (slices_IndexFunc_fare_Buy_fare_Buy_b1 p1 p2) p0 ()).bind fun c11 => Ctl.on c11 (fun s6 => (some (-1))) (fun r10 => (some r10)))
def slices_ContainsFunc_fare_Buy_fare_Buy (p0 : List S_fare_Buy) (p1 : Option (List S_fare_Pass)) (p2 : Option S_fare_Trip) : Option (Bool) :=
  ((slices_IndexFunc_fare_Buy_fare_Buy p0 p1 p2).bind fun (x2 : Int) => (some (decide (x2 ≥ 0))))
def cmp_isNaN_int (p0 : Int) : Option (Bool) :=
  (some (p0 != p0))
def cmp_Compare_int (p0 : Int) (p1 : Int) : Option (Int) :=
  ((cmp_isNaN_int p0).bind fun (x3 : Bool) => ((cmp_isNaN_int p1).bind fun (x4 : Bool) => (ifb x3 (ifb x4 (some 0) (some (-1))) (ifb x4 (some 1) (ifb (decide (p0 < p1)) (some (-1)) (ifb (decide (p0 > p1)) (some 1) (some 0)))))))
def cmp_Or_int_b1 (i4 : Nat) (x8 : Int) (s7 : Unit) : Option (Ctl (Unit) (Ctl (Unit) (Int))) :=
  (ifb (x8 != 0) (some (.out (.out x8))) (some (.go ())))
def cmp_Or_int (p0 : List Int) : Option (Int) :=
  ((forX cmp_Or_int_b1 p0 ()).bind fun c10 => Ctl.on c10 (fun s6 => (some 0)) (fun r9 => (some r9)))
def fare_compareBuys (p0 : S_fare_Buy) (p1 : S_fare_Buy) : Option (Int) :=
  ((cmp_Compare_int p0.Day p1.Day).bind fun (x4 : Int) => ((cmp_Compare_int p0.Pass p1.Pass).bind fun (x5 : Int) => ((cmp_Or_int [x4, x5]).bind fun (x6 : Int) => (some x6))))
def slices_CompareFunc_fare_Buy_fare_Buy_fare_Buy_fare_Buy_b1 (p1 : List S_fare_Buy) (i4 : Nat) (x8 : S_fare_Buy) (s7 : Unit) : Option (Ctl (Unit) (Ctl (Unit) (Int))) :=
  (ifb (decide ((i4 : Int) ≥ ((p1.length) : Int))) (some (.out (.out 1))) ((idx p1 (i4 : Int)).bind fun (x9 : S_fare_Buy) => ((fare_compareBuys x8 x9).bind fun (x10 : Int) => (ifb (x10 != 0) (some (.out (.out x10))) (some (.go ()))))))
def slices_CompareFunc_fare_Buy_fare_Buy_fare_Buy_fare_Buy (p0 : List S_fare_Buy) (p1 : List S_fare_Buy) : Option (Int) :=
  ((forX (slices_CompareFunc_fare_Buy_fare_Buy_fare_Buy_fare_Buy_b1 p1) p0 ()).bind fun c12 => Ctl.on c12 (fun s6 => (ifb (decide (((p0.length) : Int) < ((p1.length) : Int))) (some (-1)) (some 0))) (fun r11 => (some r11)))
def fare_Cheapest_b1 (p0 : S_fare_Tariff) (i15 : Nat) (x19 : S_fare_Trip) (s18 : List Int) : Option (Ctl (List Int) (Ctl (List Int) (Int × Int × List S_fare_Buy))) :=
  ((fare_CheckTrip x19).bind fun (x20 : Int) => (ifb (x20 != 0) (some (.out (.out (0, x20, ([] : List S_fare_Buy))))) ((fare_Tariff_price p0 x19).bind fun (x21 : Int × List Int) => ((gapp 8 s18 [x21.1]).bind fun (x22 : List Int) => (some (.go x22))))))
def fare_Cheapest_b2 (i23 : Nat) (x27 : S_fare_Pass) (s26 : Unit) : Option (Ctl (Unit) (Ctl (Unit) (Int × Int × List S_fare_Buy))) :=
  (((fare_within x27.Days 1 7).bind fun (x31 : Bool) => (ifb (!x31) (some true) ((fare_within x27.Price 0 100000).bind fun (x32 : Bool) => (some (!x32))))).bind fun (s30 : Bool) => (ifb s30 (some (.out (.out (0, 2, ([] : List S_fare_Buy))))) ((fare_checkZones x27.Zones true).bind fun (x33 : Int) => (ifb (x33 != 0) (some (.out (.out (0, x33, ([] : List S_fare_Buy))))) (some (.go ()))))))
def fare_Cheapest_b4 (p2 : List S_fare_Pass) (i35 : Nat) (i39 : Nat) (s42 : List S_fare_Buy) : Option (Ctl (List S_fare_Buy) (Ctl (List S_fare_Buy) (Empty))) :=
  ((gshr .i64 (i35 : Int) (i39 : Int)).bind fun (q43 : Int) => (ifb ((iand .i64 q43 1) == 1) ((gquoK .i64 (i39 : Int) ((p2.length) : Int)).bind fun (q44 : Int) => ((gremK (i39 : Int) ((p2.length) : Int)).bind fun (q45 : Int) => ((gapp 16 s42 [(S_fare_Buy.mk q44 q45)]).bind fun (x46 : List S_fare_Buy) => (some (.go x46))))) (some (.go s42))))
def fare_Cheapest_b5 (p2 : List S_fare_Pass) (i47 : Nat) (x51 : S_fare_Buy) (s50 : Int) : Option (Ctl (Int) (Ctl (Int) (Empty))) :=
  ((idx p2 x51.Pass).bind fun (x52 : S_fare_Pass) => (some (.go (w64 (s50 + x52.Price)))))
def fare_Cheapest_b6 (p2 : List S_fare_Pass) (s17 : List Int) (s41 : List S_fare_Buy) (i53 : Nat) (x57 : S_fare_Trip) (s56 : Int) : Option (Ctl (Int) (Ctl (Int) (Empty))) :=
  ((slices_ContainsFunc_fare_Buy_fare_Buy s41 (some p2) (some x57)).bind fun (x58 : Bool) => (ifb (!x58) ((idx s17 (i53 : Int)).bind fun (x59 : Int) => (some (.go (w64 (s56 + x59))))) (some (.go s56))))
def fare_Cheapest_b3 (p1 : List S_fare_Trip) (p2 : List S_fare_Pass) (s17 : List Int) (i35 : Nat) (s38 : Int × List S_fare_Buy) : Option (Ctl (Int × List S_fare_Buy) (Ctl (Int × List S_fare_Buy) (Empty))) :=
  ((glim (w64 (7 * ((p2.length) : Int)))).bind fun _ => ((forN (fare_Cheapest_b4 p2 i35) (w64 (7 * ((p2.length) : Int))).toNat ([] : List S_fare_Buy)).bind fun c74 => Ctl.on c74 (fun s41 => ((forX (fare_Cheapest_b5 p2) s41 0).bind fun c72 => Ctl.on c72 (fun s49 => ((forX (fare_Cheapest_b6 p2 s17 s41) p1 s49).bind fun c70 => Ctl.on c70 (fun s55 => ((ifb (decide (s38.1 < 0)) (some true) ((cmp_Compare_int s55 s38.1).bind fun (x65 : Int) => ((cmp_Compare_int ((s41.length) : Int) ((s38.2.length) : Int)).bind fun (x66 : Int) => ((slices_CompareFunc_fare_Buy_fare_Buy_fare_Buy_fare_Buy s41 s38.2).bind fun (x67 : Int) => ((cmp_Or_int [x65, x66, x67]).bind fun (x68 : Int) => (some (decide (x68 < 0)))))))).bind fun (s64 : Bool) => (ifb s64 (some (.go (s55, s41))) (some (.go (s38.1, s38.2)))))) (fun x_ => x_.elim))) (fun x_ => x_.elim))) (fun x_ => x_.elim)))
def fare_Cheapest (p0 : S_fare_Tariff) (p1 : List S_fare_Trip) (p2 : List S_fare_Pass) : Option (Int × Int × List S_fare_Buy) :=
  ((fare_CheckTariff p0).bind fun (x13 : Int) => (ifb (x13 != 0) (some (0, x13, ([] : List S_fare_Buy))) ((ifb (decide (((p1.length) : Int) > 12)) (some true) (some (decide (((p2.length) : Int) > 2)))).bind fun (s14 : Bool) => (ifb s14 (some (0, 4, ([] : List S_fare_Buy))) ((forX (fare_Cheapest_b1 p0) p1 ([] : List Int)).bind fun c80 => Ctl.on c80 (fun s17 => ((forX fare_Cheapest_b2 p2 ()).bind fun c78 => Ctl.on c78 (fun s25 => ((gshl .i64 1 (w64 (7 * ((p2.length) : Int)))).bind fun (q34 : Int) => ((glim q34).bind fun _ => ((forN (fare_Cheapest_b3 p1 p2 s17) (q34).toNat ((-1), ([] : List S_fare_Buy))).bind fun c76 => Ctl.on c76 (fun s37 => (some (s37.1, 0, s37.2))) (fun x_ => x_.elim))))) (fun r77 => (some r77)))) (fun r79 => (some r79)))))))
def fare_Price_v2 (p0 : S_fare_Tariff) (p1 : S_fare_Trip) : Option (Int × Int × List Int) :=
  ((fare_CheckTariff p0).bind fun (x4 : Int) => (ifb (x4 != 0) (some (0, x4, ([] : List Int))) ((fare_CheckTrip p1).bind fun (x5 : Int) => (ifb (x5 != 0) (some (0, x5, ([] : List Int))) ((fare_Tariff_price p0 p1).bind fun (x6 : Int × List Int) => (some (x6.1, 0, x6.2)))))))
def fishkeep2_FareLess_b1 (p0 : S_fare_Tariff) (i19 : Nat) (x23 : S_fare_Trip) (s22 : Int) : Option (Ctl (Int) (Ctl (Int) (Bool))) :=
  ((fare_Price_v2 p0 x23).bind fun (x24 : Int × Int × List Int) => (ifb (x24.2.1 != 0) (some (.out (.out false))) (some (.go (w64 (s22 + x24.1))))))
def fishkeep2_FareLess (p0 : S_fare_Tariff) (p1 : List S_fare_Trip) (p2 : S_fare_Pass) (p3 : S_fare_Pass) : Option (Bool) :=
  ((fishkeep2_awakeFare).bind fun (x13 : Bool) => (ifb (!x13) (some false) ((fishkeep2_fares).bind fun (x14 : Bool) => (ifb (!x14) (some false) ((fishref2_CheapestFault p0 p1 [p2, p3]).bind fun (x15 : Int) => (ifb (x15 != 0) (some true) ((fare_Cheapest p0 p1 ([] : List S_fare_Pass)).bind fun (x16 : Int × Int × List S_fare_Buy) => ((fare_Cheapest p0 p1 [p2]).bind fun (x17 : Int × Int × List S_fare_Buy) => ((fare_Cheapest p0 p1 [p2, p3]).bind fun (x18 : Int × Int × List S_fare_Buy) => ((forX (fishkeep2_FareLess_b1 p0) p1 0).bind fun c29 => Ctl.on c29 (fun s21 => ((gquoK .i64 p2.Price 2).bind fun (q25 : Int) => ((fare_Cheapest p0 p1 [(S_fare_Pass.mk p2.Days q25 p2.Zones)]).bind fun (x26 : Int × Int × List S_fare_Buy) => ((ifb (x16.2.1 == 0) (ifb (x17.2.1 == 0) (ifb (x18.2.1 == 0) (ifb (x26.2.1 == 0) (ifb (x16.1 == s21) (ifb (decide (x17.1 ≤ x16.1)) (ifb (decide (x18.1 ≤ x17.1)) (some (decide (x26.1 ≤ x17.1))) (some false)) (some false)) (some false)) (some false)) (some false)) (some false)) (some false)).bind fun (s27 : Bool) => (some s27))))) (fun r28 => (some r28))))))))))))
end Hd
