/- Functions of the program as plain functions. Printed by a tool. -/
import Derived.Test.YtodbddhmfecbbaaGreatDoorG1
set_option linter.unusedVariables false
set_option linter.unusedSimpArgs false
set_option maxRecDepth 100000
set_option maxHeartbeats 4000000
namespace Hd
open Go Hk
structure S_fare_Band where
  Upto : Int
  Price : Int
structure S_fare_Cond where
  Kind : Int
  A : Int
  B : Int
  Kids : List S_fare_Cond
structure S_fare_Rule where
  If : S_fare_Cond
  Do : Int
  N : Int
  Stop : Bool
structure S_fare_Tariff where
  ByKm : Bool
  Bands : List S_fare_Band
  Round : Int
  Rules : List S_fare_Rule
structure S_fare_Trip where
  Day : Int
  At : Int
  Km : Int
  Age : Int
  Card : Bool
  Zones : List Int
def fishkeep2_awakeFare : Option Bool := some true
def fare_within (p0 : Int) (p1 : Int) (p2 : Int) : Option (Bool) :=
  ((ifb (decide (p0 ≥ p1)) (some (decide (p0 ≤ p2))) (some false)).bind fun (s2 : Bool) => (some s2))
def fare_Cond_size_b1 (rec_ : S_fare_Cond → Option (Int × Int)) (i7 : Nat) (x11 : S_fare_Cond) (s10 : Int × Int) : Option (Ctl (Int × Int) (Ctl (Int × Int) (Empty))) :=
  ((rec_ (S_fare_Cond.mk x11.Kind x11.A x11.B x11.Kids)).bind fun (x12 : Int × Int) => (some (.go (w64 (s10.1 + x12.1), gmax s10.2 x12.2))))
def fare_Cond_size_step (rec_ : S_fare_Cond → Option (Int × Int)) (p0 : S_fare_Cond) : Option (Int × Int) :=
  ((forX (fare_Cond_size_b1 rec_) p0.Kids (1, 0)).bind fun c14 => Ctl.on c14 (fun s9 => (some (s9.1, w64 (s9.2 + 1)))) (fun x_ => x_.elim))
def fare_Cond_size_n : Nat → S_fare_Cond → Option (Int × Int)
  | 0 => fun _ => none
  | n + 1 => fare_Cond_size_step (fare_Cond_size_n n)
def fare_Cond_size : S_fare_Cond → Option (Int × Int) := fare_Cond_size_n bigN
def fare_numbers (p0 : Int) : Option (Int) :=
  ((ifb (p0 == 2) (some (p0 == 2)) (ifb (p0 == 3) (some (p0 == 3)) (ifb (p0 == 4) (some (p0 == 4)) (some (p0 == 5))))).bind fun (s3 : Bool) => (ifb s3 (some 2) ((ifb (p0 == 6) (some (p0 == 6)) (ifb (p0 == 7) (some (p0 == 7)) (some (p0 == 8)))).bind fun (s4 : Bool) => (ifb s4 (some 1) (some 0)))))
def fare_Cond_node_b1 (rec_ : S_fare_Cond → Option (Int)) (i30 : Nat) (x34 : S_fare_Cond) (s33 : Unit) : Option (Ctl (Unit) (Ctl (Unit) (Int))) :=
  ((rec_ (S_fare_Cond.mk x34.Kind x34.A x34.B x34.Kids)).bind fun (x35 : Int) => (ifb (x35 != 0) (some (.out (.out x35))) (some (.go ()))))
def fare_Cond_node_step (rec_ : S_fare_Cond → Option (Int)) (p0 : S_fare_Cond) : Option (Int) :=
  ((fare_numbers p0.Kind).bind fun (x21 : Int) => ((fare_within p0.Kind 0 11).bind fun (x22 : Bool) => (ifb (!x22) (some 15) (((fare_within p0.A 0 28800).bind fun (x26 : Bool) => (ifb (!x26) (some true) ((fare_within p0.B 0 28800).bind fun (x27 : Bool) => (some (!x27))))).bind fun (s25 : Bool) => (ifb s25 (some 2) ((ifb (decide (x21 < 1)) (ifb (p0.A != 0) (some true) (ifb (decide (x21 < 2)) (ifb (p0.B != 0) (some true) (ifb (x21 == 2) (some (decide (p0.A > p0.B))) (some false))) (ifb (x21 == 2) (some (decide (p0.A > p0.B))) (some false)))) (ifb (decide (x21 < 2)) (ifb (p0.B != 0) (some true) (ifb (x21 == 2) (some (decide (p0.A > p0.B))) (some false))) (ifb (x21 == 2) (some (decide (p0.A > p0.B))) (some false)))).bind fun (s28 : Bool) => (ifb s28 (some 1) ((ifb (p0.Kind == 9) (ifb (((p0.Kids.length) : Int) != 1) (some true) (ifb (decide (p0.Kind > 9)) (ifb (decide (((p0.Kids.length) : Int) < 2)) (some true) (ifb (decide (p0.Kind < 9)) (some (decide (((p0.Kids.length) : Int) > 0))) (some false))) (ifb (decide (p0.Kind < 9)) (some (decide (((p0.Kids.length) : Int) > 0))) (some false)))) (ifb (decide (p0.Kind > 9)) (ifb (decide (((p0.Kids.length) : Int) < 2)) (some true) (ifb (decide (p0.Kind < 9)) (some (decide (((p0.Kids.length) : Int) > 0))) (some false))) (ifb (decide (p0.Kind < 9)) (some (decide (((p0.Kids.length) : Int) > 0))) (some false)))).bind fun (s29 : Bool) => (ifb s29 (some 1) ((forX (fare_Cond_node_b1 rec_) p0.Kids ()).bind fun c37 => Ctl.on c37 (fun s32 => (some 0)) (fun r36 => (some r36))))))))))))
def fare_Cond_node_n : Nat → S_fare_Cond → Option (Int)
  | 0 => fun _ => none
  | n + 1 => fare_Cond_node_step (fare_Cond_node_n n)
def fare_Cond_node : S_fare_Cond → Option (Int) := fare_Cond_node_n bigN
def fare_Cond_check (p0 : S_fare_Cond) : Option (Int) :=
  ((fare_Cond_size (S_fare_Cond.mk p0.Kind p0.A p0.B p0.Kids)).bind fun (x4 : Int × Int) => ((ifb (decide (x4.1 > 40)) (some true) (some (decide (x4.2 > 6)))).bind fun (s5 : Bool) => (ifb s5 (some 4) ((fare_Cond_node (S_fare_Cond.mk p0.Kind p0.A p0.B p0.Kids)).bind fun (x6 : Int) => (some x6)))))
def fare_CheckTariff_b1 (p0 : S_fare_Tariff) (i13 : Nat) (x17 : S_fare_Band) (s16 : Unit) : Option (Ctl (Unit) (Ctl (Unit) (Int))) :=
  (((fare_within x17.Upto 1 1000).bind fun (x21 : Bool) => (ifb (!x21) (some true) ((fare_within x17.Price 0 100000).bind fun (x22 : Bool) => (some (!x22))))).bind fun (s20 : Bool) => (ifb s20 (some (.out (.out 2))) ((ifb (decide ((i13 : Int) > 0)) ((idx p0.Bands (w64 ((i13 : Int) - 1))).bind fun (x26 : S_fare_Band) => (ifb (decide (x17.Upto ≤ x26.Upto)) (some true) ((idx p0.Bands (w64 ((i13 : Int) - 1))).bind fun (x27 : S_fare_Band) => (some (decide (x17.Price < x27.Price)))))) (some false)).bind fun (s25 : Bool) => (ifb s25 (some (.out (.out 1))) (some (.go ()))))))
def fare_CheckTariff_b2 (i29 : Nat) (x33 : S_fare_Rule) (s32 : Unit) : Option (Ctl (Unit) (Ctl (Unit) (Int))) :=
  ((fare_Cond_check (S_fare_Cond.mk x33.If.Kind x33.If.A x33.If.B x33.If.Kids)).bind fun (x34 : Int) => (ifb (x34 != 0) (some (.out (.out x34))) ((ifb (x33.Do == 1) (some 200) (some 100000)).bind fun (s35 : Int) => ((fare_within x33.Do 1 6).bind fun (x36 : Bool) => (ifb (!x36) (some (.out (.out 15))) ((fare_within x33.N 0 s35).bind fun (x37 : Bool) => (ifb (!x37) (some (.out (.out 2))) (some (.go ())))))))))
def fare_CheckTariff (p0 : S_fare_Tariff) : Option (Int) :=
  (((fare_within ((p0.Bands.length) : Int) 1 8).bind fun (x12 : Bool) => (ifb (!x12) (some true) (some (decide (((p0.Rules.length) : Int) > 20))))).bind fun (s11 : Bool) => (ifb s11 (some 4) ((forX (fare_CheckTariff_b1 p0) p0.Bands ()).bind fun c41 => Ctl.on c41 (fun s15 => ((fare_within p0.Round 1 100).bind fun (x28 : Bool) => (ifb (!x28) (some 2) ((forX fare_CheckTariff_b2 p0.Rules ()).bind fun c39 => Ctl.on c39 (fun s31 => (some 0)) (fun r38 => (some r38)))))) (fun r40 => (some r40)))))
def fare_checkZones_b1 (p0 : List Int) (p1 : Bool) (i4 : Nat) (x8 : Int) (s7 : Unit) : Option (Ctl (Unit) (Ctl (Unit) (Int))) :=
  ((fare_within x8 0 19).bind fun (x9 : Bool) => (ifb (!x9) (some (.out (.out 2))) ((ifb (decide ((i4 : Int) > 0)) ((idx p0 (w64 ((i4 : Int) - 1))).bind fun (x13 : Int) => (ifb (x8 == x13) (some true) (ifb p1 ((idx p0 (w64 ((i4 : Int) - 1))).bind fun (x14 : Int) => (some (decide (x8 < x14)))) (some false)))) (some false)).bind fun (s12 : Bool) => (ifb s12 (some (.out (.out 1))) (some (.go ()))))))
def fare_checkZones (p0 : List Int) (p1 : Bool) : Option (Int) :=
  ((forX (fare_checkZones_b1 p0 p1) p0 ()).bind fun c16 => Ctl.on c16 (fun s6 => (some 0)) (fun r15 => (some r15)))
def fare_CheckTrip (p0 : S_fare_Trip) : Option (Int) :=
  (((fare_within p0.Day 0 6).bind fun (x13 : Bool) => (ifb (!x13) (some true) ((fare_within p0.At 0 28800).bind fun (x14 : Bool) => (ifb (!x14) (some true) ((fare_within p0.Km 0 1000).bind fun (x15 : Bool) => (ifb (!x15) (some true) ((fare_within p0.Age 0 120).bind fun (x16 : Bool) => (some (!x16))))))))).bind fun (s12 : Bool) => (ifb s12 (some 2) ((fare_within ((p0.Zones.length) : Int) 1 10).bind fun (x17 : Bool) => (ifb (!x17) (some 4) ((fare_checkZones p0.Zones false).bind fun (x18 : Int) => (some x18))))))
def fare_Tariff_price_1 (p0 : S_fare_Band) (p1 : Option Int) : Option (Bool) :=
  ((p1).bind fun (x2 : Int) => (some (decide (p0.Upto ≥ x2))))
def slices_IndexFunc_fare_Band_fare_Band_b1 (p1 : Option Int) (i4 : Nat) (x8 : S_fare_Band) (s7 : Unit) : Option (Ctl (Unit) (Ctl (Unit) (Int))) :=
  ((fare_Tariff_price_1 x8 p1).bind fun (x9 : Bool) => (ifb x9 (some (.out (.out (i4 : Int)))) (some (.go ()))))
def slices_IndexFunc_fare_Band_fare_Band (p0 : List S_fare_Band) (p1 : Option Int) : Option (Int) :=
  ((forX (slices_IndexFunc_fare_Band_fare_Band_b1 p1) p0 ()).bind fun c11 => Ctl.on c11 (fun s6 => (some (-1))) (fun r10 => (some r10)))
def fare_Cond_holds_1 (p0 : Int) (p1 : Option S_fare_Cond) : Option (Bool) :=
  ((p1).bind fun (x4 : S_fare_Cond) => ((p1).bind fun (x5 : S_fare_Cond) => ((fare_within p0 x4.A x5.B).bind fun (x6 : Bool) => (some x6))))
def slices_Index_int_int_b1 (p1 : Int) (i4 : Nat) (x8 : Int) (s7 : Unit) : Option (Ctl (Unit) (Ctl (Unit) (Int))) :=
  (ifb (p1 == x8) (some (.out (.out (i4 : Int)))) (some (.go ())))
def slices_Index_int_int (p0 : List Int) (p1 : Int) : Option (Int) :=
  ((forX (slices_Index_int_int_b1 p1) p0 ()).bind fun c10 => Ctl.on c10 (fun s6 => (some (-1))) (fun r9 => (some r9)))
def slices_Contains_int_int (p0 : List Int) (p1 : Int) : Option (Bool) :=
  ((slices_Index_int_int p0 p1).bind fun (x2 : Int) => (some (decide (x2 ≥ 0))))
def fare_Cond_holds_2 (rec_fare_Cond_holds : S_fare_Cond → S_fare_Trip → Option (Bool)) (p0 : S_fare_Cond) (p1 : Option S_fare_Trip) : Option (Bool) :=
  ((p1).bind fun (x3 : S_fare_Trip) => ((rec_fare_Cond_holds (S_fare_Cond.mk p0.Kind p0.A p0.B p0.Kids) x3).bind fun (x4 : Bool) => (some (!x4))))
def slices_IndexFunc_fare_Cond_fare_Cond_b1 (rec_fare_Cond_holds : S_fare_Cond → S_fare_Trip → Option (Bool)) (p1 : Option S_fare_Trip) (i4 : Nat) (x8 : S_fare_Cond) (s7 : Unit) : Option (Ctl (Unit) (Ctl (Unit) (Int))) :=
  ((fare_Cond_holds_2 rec_fare_Cond_holds (S_fare_Cond.mk x8.Kind x8.A x8.B x8.Kids) p1).bind fun (x9 : Bool) => (ifb x9 (some (.out (.out (i4 : Int)))) (some (.go ()))))
def slices_IndexFunc_fare_Cond_fare_Cond (rec_fare_Cond_holds : S_fare_Cond → S_fare_Trip → Option (Bool)) (p0 : List S_fare_Cond) (p1 : Option S_fare_Trip) : Option (Int) :=
  ((forX (slices_IndexFunc_fare_Cond_fare_Cond_b1 rec_fare_Cond_holds p1) p0 ()).bind fun c11 => Ctl.on c11 (fun s6 => (some (-1))) (fun r10 => (some r10)))
def slices_ContainsFunc_fare_Cond_fare_Cond (rec_fare_Cond_holds : S_fare_Cond → S_fare_Trip → Option (Bool)) (p0 : List S_fare_Cond) (p1 : Option S_fare_Trip) : Option (Bool) :=
  ((slices_IndexFunc_fare_Cond_fare_Cond rec_fare_Cond_holds p0 p1).bind fun (x2 : Int) => (some (decide (x2 ≥ 0))))
def fare_Cond_holds_3 (rec_fare_Cond_holds : S_fare_Cond → S_fare_Trip → Option (Bool)) (p0 : S_fare_Cond) (p1 : Option S_fare_Trip) : Option (Bool) :=
  ((p1).bind fun (x3 : S_fare_Trip) => ((rec_fare_Cond_holds (S_fare_Cond.mk p0.Kind p0.A p0.B p0.Kids) x3).bind fun (x4 : Bool) => (some x4)))
def slices_IndexFunc_fare_Cond_fare_Cond_v2_b1 (rec_fare_Cond_holds : S_fare_Cond → S_fare_Trip → Option (Bool)) (p1 : Option S_fare_Trip) (i4 : Nat) (x8 : S_fare_Cond) (s7 : Unit) : Option (Ctl (Unit) (Ctl (Unit) (Int))) :=
  ((fare_Cond_holds_3 rec_fare_Cond_holds (S_fare_Cond.mk x8.Kind x8.A x8.B x8.Kids) p1).bind fun (x9 : Bool) => (ifb x9 (some (.out (.out (i4 : Int)))) (some (.go ()))))
def slices_IndexFunc_fare_Cond_fare_Cond_v2 (rec_fare_Cond_holds : S_fare_Cond → S_fare_Trip → Option (Bool)) (p0 : List S_fare_Cond) (p1 : Option S_fare_Trip) : Option (Int) :=
  ((forX (slices_IndexFunc_fare_Cond_fare_Cond_v2_b1 rec_fare_Cond_holds p1) p0 ()).bind fun c11 => Ctl.on c11 (fun s6 => (some (-1))) (fun r10 => (some r10)))
def slices_ContainsFunc_fare_Cond_fare_Cond_v2 (rec_fare_Cond_holds : S_fare_Cond → S_fare_Trip → Option (Bool)) (p0 : List S_fare_Cond) (p1 : Option S_fare_Trip) : Option (Bool) :=
  ((slices_IndexFunc_fare_Cond_fare_Cond_v2 rec_fare_Cond_holds p0 p1).bind fun (x2 : Int) => (some (decide (x2 ≥ 0))))
def fare_Cond_holds_step (rec_ : S_fare_Cond → S_fare_Trip → Option (Bool)) (p0 : S_fare_Cond) (p1 : S_fare_Trip) : Option (Bool) :=
  (ifb (p0.Kind == 1) (some p1.Card) (ifb (p0.Kind == 2) ((fare_Cond_holds_1 p1.Age (some (S_fare_Cond.mk p0.Kind p0.A p0.B p0.Kids))).bind fun (x20 : Bool) => (some x20)) (ifb (p0.Kind == 3) ((fare_Cond_holds_1 p1.At (some (S_fare_Cond.mk p0.Kind p0.A p0.B p0.Kids))).bind fun (x21 : Bool) => (some x21)) (ifb (p0.Kind == 4) ((fare_Cond_holds_1 p1.Km (some (S_fare_Cond.mk p0.Kind p0.A p0.B p0.Kids))).bind fun (x22 : Bool) => (some x22)) (ifb (p0.Kind == 5) ((fare_Cond_holds_1 ((p1.Zones.length) : Int) (some (S_fare_Cond.mk p0.Kind p0.A p0.B p0.Kids))).bind fun (x23 : Bool) => (some x23)) (ifb (p0.Kind == 6) ((slices_Contains_int_int p1.Zones p0.A).bind fun (x24 : Bool) => (some x24)) (ifb (p0.Kind == 7) ((idx p1.Zones (0 : Int)).bind fun (x25 : Int) => (some (x25 == p0.A))) (ifb (p0.Kind == 8) ((idx p1.Zones (w64 (((p1.Zones.length) : Int) - 1))).bind fun (x26 : Int) => (some (x26 == p0.A))) (ifb (p0.Kind == 9) ((idx p0.Kids (0 : Int)).bind fun (x27 : S_fare_Cond) => ((rec_ (S_fare_Cond.mk x27.Kind x27.A x27.B x27.Kids) p1).bind fun (x28 : Bool) => (some (!x28)))) (ifb (p0.Kind == 10) ((slices_ContainsFunc_fare_Cond_fare_Cond rec_ p0.Kids (some p1)).bind fun (x29 : Bool) => (some (!x29))) (ifb (p0.Kind == 11) ((slices_ContainsFunc_fare_Cond_fare_Cond_v2 rec_ p0.Kids (some p1)).bind fun (x30 : Bool) => (some x30)) (some true))))))))))))
def fare_Cond_holds_n : Nat → S_fare_Cond → S_fare_Trip → Option (Bool)
  | 0 => fun _ _ => none
  | n + 1 => fare_Cond_holds_step (fare_Cond_holds_n n)
def fare_Cond_holds : S_fare_Cond → S_fare_Trip → Option (Bool) := fare_Cond_holds_n bigN
def fare_Rule_change (p0 : S_fare_Rule) (p1 : Int) : Option (Int) :=
  (ifb (p0.Do == 1) ((gquoK .i64 (w64 (p1 * p0.N)) 100).bind fun (q2 : Int) => (some (gmin 100000 q2))) (ifb (p0.Do == 2) (some (gmax 0 (w64 (p1 - p0.N)))) (ifb (p0.Do == 3) (some (gmin 100000 (w64 (p1 + p0.N)))) (ifb (p0.Do == 4) (some p0.N) (ifb (p0.Do == 5) (some (gmin p1 p0.N)) (some (gmax p1 p0.N)))))))
def fare_Tariff_price_b1 (p1 : S_fare_Trip) (i13 : Nat) (x17 : S_fare_Rule) (s16 : Int × List Int) : Option (Ctl (Int × List Int) (Ctl (Int × List Int) (Empty))) :=
  ((fare_Cond_holds (S_fare_Cond.mk x17.If.Kind x17.If.A x17.If.B x17.If.Kids) p1).bind fun (x18 : Bool) => (ifb (!x18) (some (.go (s16.1, s16.2))) ((gapp 8 s16.2 [(i13 : Int)]).bind fun (x19 : List Int) => ((fare_Rule_change (S_fare_Rule.mk (S_fare_Cond.mk x17.If.Kind x17.If.A x17.If.B x17.If.Kids) x17.Do x17.N x17.Stop) s16.1).bind fun (x20 : Int) => (ifb x17.Stop (some (.out (.go (x20, x19)))) (some (.go (x20, x19))))))))
def fare_Tariff_price (p0 : S_fare_Tariff) (p1 : S_fare_Trip) : Option (Int × List Int) :=
  ((ifb p0.ByKm (some p1.Km) (some ((p1.Zones.length) : Int))).bind fun (s9 : Int) => ((slices_IndexFunc_fare_Band_fare_Band p0.Bands (some s9)).bind fun (x10 : Int) => ((ifb (decide (x10 < 0)) (some (w64 (((p0.Bands.length) : Int) - 1))) (some x10)).bind fun (s11 : Int) => ((idx p0.Bands s11).bind fun (x12 : S_fare_Band) => ((forX (fare_Tariff_price_b1 p1) p0.Rules (x12.Price, ([] : List Int))).bind fun c23 => Ctl.on c23 (fun s15 => ((gquoK .i64 (w64 ((w64 (s15.1 + p0.Round)) - 1)) p0.Round).bind fun (q21 : Int) => (some (w64 (q21 * p0.Round), s15.2)))) (fun x_ => x_.elim))))))
def fare_Price (p0 : Bool) (p1 : List S_fare_Band) (p2 : Int) (p3 : List S_fare_Rule) (p4 : Int) (p5 : Int) (p6 : Int) (p7 : Int) (p8 : Bool) (p9 : List Int) : Option (Int × Int × List Int) :=
  ((fare_CheckTariff (S_fare_Tariff.mk p0 p1 p2 p3)).bind fun (x4 : Int) => (ifb (x4 != 0) (some (0, x4, ([] : List Int))) ((fare_CheckTrip (S_fare_Trip.mk p4 p5 p6 p7 p8 p9)).bind fun (x5 : Int) => (ifb (x5 != 0) (some (0, x5, ([] : List Int))) ((fare_Tariff_price (S_fare_Tariff.mk p0 p1 p2 p3) (S_fare_Trip.mk p4 p5 p6 p7 p8 p9)).bind fun (x6 : Int × List Int) => (some (x6.1, 0, x6.2)))))))
def fishkeep2_fares : Option (Bool) :=
  ((fare_Price false [(S_fare_Band.mk 3 500)] 1 [(S_fare_Rule.mk (S_fare_Cond.mk 1 0 0 ([] : List S_fare_Cond)) 2 7 false)] 0 0 0 0 true [1]).bind fun (x3 : Int × Int × List Int) => ((ifb (x3.2.1 == 0) (some (x3.1 == 493)) (some false)).bind fun (s4 : Bool) => (some s4)))
def fishref2_within (p0 : Int) (p1 : Int) (p2 : Int) : Option (Bool) :=
  ((ifb (decide (p0 ≥ p1)) (some (decide (p0 ≤ p2))) (some false)).bind fun (s2 : Bool) => (some s2))
def fishref2_SharesFault_b1 (i8 : Nat) (x12 : Int) (s11 : Int) : Option (Ctl (Int) (Ctl (Int) (Int))) :=
  ((fishref2_within x12 0 10000).bind fun (x13 : Bool) => (ifb (!x13) (some (.out (.out 2))) (some (.go (w64 (s11 + x12))))))
def fishref2_SharesFault (p0 : Int) (p1 : List Int) : Option (Int) :=
  ((fishref2_within p0 0 100000).bind fun (x6 : Bool) => (ifb (!x6) (some 2) ((fishref2_within ((p1.length) : Int) 1 6).bind fun (x7 : Bool) => (ifb (!x7) (some 4) ((forX fishref2_SharesFault_b1 p1 0).bind fun c15 => Ctl.on c15 (fun s10 => (ifb (s10 == 0) (some 1) (some 0))) (fun r14 => (some r14)))))))
def cmp_isNaN_int (p0 : Int) : Option (Bool) :=
  (some (p0 != p0))
def cmp_Compare_int (p0 : Int) (p1 : Int) : Option (Int) :=
  ((cmp_isNaN_int p0).bind fun (x3 : Bool) => ((cmp_isNaN_int p1).bind fun (x4 : Bool) => (ifb x3 (ifb x4 (some 0) (some (-1))) (ifb x4 (some 1) (ifb (decide (p0 < p1)) (some (-1)) (ifb (decide (p0 > p1)) (some 1) (some 0)))))))
def fare_Shares_1 (p0 : Int) (p1 : Int) (p2 : Option Int) (p3 : Option (List Int)) (p4 : Option Int) : Option (Int) :=
  ((p2).bind fun (x12 : Int) => ((p3).bind fun (x13 : List Int) => ((idx x13 p1).bind fun (x14 : Int) => ((p4).bind fun (x15 : Int) => ((gremK (w64 (x12 * x14)) x15).bind fun (q16 : Int) => ((p2).bind fun (x17 : Int) => ((p3).bind fun (x18 : List Int) => ((idx x18 p0).bind fun (x19 : Int) => ((p4).bind fun (x20 : Int) => ((gremK (w64 (x17 * x19)) x20).bind fun (q21 : Int) => ((cmp_Compare_int q16 q21).bind fun (x22 : Int) => (some x22))))))))))))
def slices_insertionSortCmpFunc_int_b2 (p0 : Int) (p3 : Option Int) (p4 : Option (List Int)) (p5 : Option Int) (s11 : Int × List Int) : Option (Ctl (Int × List Int) (Ctl (List Int) (Empty))) :=
  ((ifb (decide (s11.1 > p0)) ((idx s11.2 s11.1).bind fun (x16 : Int) => ((idx s11.2 (w64 (s11.1 - 1))).bind fun (x17 : Int) => ((fare_Shares_1 x16 x17 p3 p4 p5).bind fun (x18 : Int) => (some (decide (x18 < 0)))))) (some false)).bind fun (s15 : Bool) => (ifb s15 ((idx s11.2 (w64 (s11.1 - 1))).bind fun (x19 : Int) => ((idx s11.2 s11.1).bind fun (x20 : Int) => ((idx s11.2 s11.1).bind fun (x21 : Int) => ((idx (setI s11.2 s11.1 x19) (w64 (s11.1 - 1))).bind fun (x22 : Int) => (some (.go (w64 (s11.1 - 1), (setI (setI s11.2 s11.1 x19) (w64 (s11.1 - 1)) x20)))))))) (some (.out (.go s11.2)))))
def slices_insertionSortCmpFunc_int_b1 (p0 : Int) (p1 : Int) (p3 : Option Int) (p4 : Option (List Int)) (p5 : Option Int) (s7 : Int × List Int) : Option (Ctl (Int × List Int) (Ctl (List Int) (Empty))) :=
  (ifb (decide (s7.1 < p1)) ((iter (slices_insertionSortCmpFunc_int_b2 p0 p3 p4 p5) (s7.1, s7.2)).bind fun c24 => Ctl.on c24 (fun s10 => (some (.go (w64 (s7.1 + 1), s10)))) (fun x_ => x_.elim)) (some (.out (.go s7.2))))
def slices_insertionSortCmpFunc_int (p0 : Int) (p1 : Int) (p2 : List Int) (p3 : Option Int) (p4 : Option (List Int)) (p5 : Option Int) : Option (List Int) :=
  ((iter (slices_insertionSortCmpFunc_int_b1 p0 p1 p3 p4 p5) (w64 (p0 + 1), p2)).bind fun c26 => Ctl.on c26 (fun s6 => (some s6)) (fun x_ => x_.elim))
def slices_swapRangeCmpFunc_int_b1 (p0 : Int) (p1 : Int) (p2 : Int) (s7 : Int × List Int) : Option (Ctl (Int × List Int) (Ctl (List Int) (Empty))) :=
  (ifb (decide (s7.1 < p2)) ((idx s7.2 (w64 (p1 + s7.1))).bind fun (x8 : Int) => ((idx s7.2 (w64 (p0 + s7.1))).bind fun (x9 : Int) => ((idx s7.2 (w64 (p0 + s7.1))).bind fun (x10 : Int) => ((idx (setI s7.2 (w64 (p0 + s7.1)) x8) (w64 (p1 + s7.1))).bind fun (x11 : Int) => (some (.go (w64 (s7.1 + 1), (setI (setI s7.2 (w64 (p0 + s7.1)) x8) (w64 (p1 + s7.1)) x9)))))))) (some (.out (.go s7.2))))
def slices_swapRangeCmpFunc_int (p0 : Int) (p1 : Int) (p2 : Int) (p3 : List Int) (p4 : Option Int) (p5 : Option (List Int)) (p6 : Option Int) : Option (List Int) :=
  ((iter (slices_swapRangeCmpFunc_int_b1 p0 p1 p2) (0, p3)).bind fun c13 => Ctl.on c13 (fun s6 => (some s6)) (fun x_ => x_.elim))
def slices_rotateCmpFunc_int_b1 (p1 : Int) (p4 : Option Int) (p5 : Option (List Int)) (p6 : Option Int) (s8 : Int × Int × List Int) : Option (Ctl (Int × Int × List Int) (Ctl (Int × List Int) (Empty))) :=
  (ifb (s8.1 != s8.2.1) (ifb (decide (s8.1 > s8.2.1)) ((slices_swapRangeCmpFunc_int (w64 (p1 - s8.1)) p1 s8.2.1 s8.2.2 p4 p5 p6).bind fun (x9 : List Int) => (some (.go (w64 (s8.1 - s8.2.1), s8.2.1, x9)))) ((slices_swapRangeCmpFunc_int (w64 (p1 - s8.1)) (w64 ((w64 (p1 + s8.2.1)) - s8.1)) s8.1 s8.2.2 p4 p5 p6).bind fun (x10 : List Int) => (some (.go (s8.1, w64 (s8.2.1 - s8.1), x10))))) (some (.out (.go (s8.1, s8.2.2)))))
def slices_rotateCmpFunc_int (p0 : Int) (p1 : Int) (p2 : Int) (p3 : List Int) (p4 : Option Int) (p5 : Option (List Int)) (p6 : Option Int) : Option (List Int) :=
  ((iter (slices_rotateCmpFunc_int_b1 p1 p4 p5 p6) (w64 (p1 - p0), w64 (p2 - p1), p3)).bind fun c13 => Ctl.on c13 (fun s7 => ((slices_swapRangeCmpFunc_int (w64 (p1 - s7.1)) p1 s7.1 s7.2 p4 p5 p6).bind fun (x11 : List Int) => (some x11))) (fun x_ => x_.elim))
def slices_symMergeCmpFunc_int_b1 (p0 : Int) (p3 : List Int) (p4 : Option Int) (p5 : Option (List Int)) (p6 : Option Int) (s52 : Int × Int) : Option (Ctl (Int × Int) (Ctl (Int) (Empty))) :=
  (ifb (decide (s52.1 < s52.2)) ((gshr .u64 (IntKind.u64.wrap (w64 (s52.1 + s52.2))) 1).bind fun (q53 : Int) => ((idx p3 (w64 q53)).bind fun (x54 : Int) => ((idx p3 p0).bind fun (x55 : Int) => ((fare_Shares_1 x54 x55 p4 p5 p6).bind fun (x56 : Int) => (ifb (decide (x56 < 0)) (some (.go (w64 ((w64 q53) + 1), s52.2))) (some (.go (s52.1, w64 q53)))))))) (some (.out (.go s52.1))))
def slices_symMergeCmpFunc_int_b2 (s51 : Int) (s60 : Int × List Int) : Option (Ctl (Int × List Int) (Ctl (List Int) (Empty))) :=
  (ifb (decide (s60.1 < (w64 (s51 - 1)))) ((idx s60.2 (w64 (s60.1 + 1))).bind fun (x61 : Int) => ((idx s60.2 s60.1).bind fun (x62 : Int) => ((idx s60.2 s60.1).bind fun (x63 : Int) => ((idx (setI s60.2 s60.1 x61) (w64 (s60.1 + 1))).bind fun (x64 : Int) => (some (.go (w64 (s60.1 + 1), (setI (setI s60.2 s60.1 x61) (w64 (s60.1 + 1)) x62)))))))) (some (.out (.go s60.2))))
def slices_symMergeCmpFunc_int_b3 (p1 : Int) (p3 : List Int) (p4 : Option Int) (p5 : Option (List Int)) (p6 : Option Int) (s72 : Int × Int) : Option (Ctl (Int × Int) (Ctl (Int) (Empty))) :=
  (ifb (decide (s72.1 < s72.2)) ((gshr .u64 (IntKind.u64.wrap (w64 (s72.1 + s72.2))) 1).bind fun (q73 : Int) => ((idx p3 p1).bind fun (x74 : Int) => ((idx p3 (w64 q73)).bind fun (x75 : Int) => ((fare_Shares_1 x74 x75 p4 p5 p6).bind fun (x76 : Int) => (ifb (!(decide (x76 < 0))) (some (.go (w64 ((w64 q73) + 1), s72.2))) (some (.go (s72.1, w64 q73)))))))) (some (.out (.go s72.1))))
def slices_symMergeCmpFunc_int_b4 (s71 : Int) (s80 : Int × List Int) : Option (Ctl (Int × List Int) (Ctl (List Int) (Empty))) :=
  (ifb (decide (s80.1 > s71)) ((idx s80.2 (w64 (s80.1 - 1))).bind fun (x81 : Int) => ((idx s80.2 s80.1).bind fun (x82 : Int) => ((idx s80.2 s80.1).bind fun (x83 : Int) => ((idx (setI s80.2 s80.1 x81) (w64 (s80.1 - 1))).bind fun (x84 : Int) => (some (.go (w64 (s80.1 - 1), (setI (setI s80.2 s80.1 x81) (w64 (s80.1 - 1)) x82)))))))) (some (.out (.go s80.2))))
def slices_symMergeCmpFunc_int_b5 (p1 : Int) (p3 : List Int) (p4 : Option Int) (p5 : Option (List Int)) (p6 : Option Int) (q89 : Int) (s94 : Int × Int) : Option (Ctl (Int × Int) (Ctl (Int) (Empty))) :=
  (ifb (decide (s94.1 < s94.2)) ((gshr .u64 (IntKind.u64.wrap (w64 (s94.1 + s94.2))) 1).bind fun (q95 : Int) => ((idx p3 (w64 ((w64 ((w64 ((w64 q89) + p1)) - 1)) - (w64 q95)))).bind fun (x96 : Int) => ((idx p3 (w64 q95)).bind fun (x97 : Int) => ((fare_Shares_1 x96 x97 p4 p5 p6).bind fun (x98 : Int) => (ifb (!(decide (x98 < 0))) (some (.go (w64 ((w64 q95) + 1), s94.2))) (some (.go (s94.1, w64 q95)))))))) (some (.out (.go s94.1))))
def slices_symMergeCmpFunc_int_step (rec_ : Int → Int → Int → List Int → Option Int → Option (List Int) → Option Int → Option (List Int)) (p0 : Int) (p1 : Int) (p2 : Int) (p3 : List Int) (p4 : Option Int) (p5 : Option (List Int)) (p6 : Option Int) : Option (List Int) :=
  (ifb ((w64 (p1 - p0)) == 1) ((iter (slices_symMergeCmpFunc_int_b1 p0 p3 p4 p5 p6) (p1, p2)).bind fun c68 => Ctl.on c68 (fun s51 => ((iter (slices_symMergeCmpFunc_int_b2 s51) (p0, p3)).bind fun c66 => Ctl.on c66 (fun s59 => (some s59)) (fun x_ => x_.elim))) (fun x_ => x_.elim)) (ifb ((w64 (p2 - p1)) == 1) ((iter (slices_symMergeCmpFunc_int_b3 p1 p3 p4 p5 p6) (p0, p1)).bind fun c88 => Ctl.on c88 (fun s71 => ((iter (slices_symMergeCmpFunc_int_b4 s71) (p1, p3)).bind fun c86 => Ctl.on c86 (fun s79 => (some s79)) (fun x_ => x_.elim))) (fun x_ => x_.elim)) ((gshr .u64 (IntKind.u64.wrap (w64 (p0 + p2))) 1).bind fun (q89 : Int) => ((ifb (decide (p1 > (w64 q89))) (some (w64 ((w64 ((w64 q89) + p1)) - p2), w64 q89)) (some (p0, p1))).bind fun (s90 : Int × Int) => ((iter (slices_symMergeCmpFunc_int_b5 p1 p3 p4 p5 p6 q89) (s90.1, s90.2)).bind fun c112 => Ctl.on c112 (fun s93 => (((ifb (decide (s93 < p1)) (some (decide (p1 < (w64 ((w64 ((w64 q89) + p1)) - s93))))) (some false)).bind fun (s102 : Bool) => (ifb s102 ((slices_rotateCmpFunc_int s93 p1 (w64 ((w64 ((w64 q89) + p1)) - s93)) p3 p4 p5 p6).bind fun (x103 : List Int) => (some x103)) (some p3))).bind fun (s101 : List Int) => (((ifb (decide (p0 < s93)) (some (decide (s93 < (w64 q89)))) (some false)).bind fun (s107 : Bool) => (ifb s107 ((rec_ p0 s93 (w64 q89) s101 p4 p5 p6).bind fun (x108 : List Int) => (some x108)) (some s101))).bind fun (s106 : List Int) => ((ifb (decide ((w64 q89) < (w64 ((w64 ((w64 q89) + p1)) - s93)))) (some (decide ((w64 ((w64 ((w64 q89) + p1)) - s93)) < p2))) (some false)).bind fun (s109 : Bool) => (ifb s109 ((rec_ (w64 q89) (w64 ((w64 ((w64 q89) + p1)) - s93)) p2 s106 p4 p5 p6).bind fun (x110 : List Int) => (some x110)) (some s106)))))) (fun x_ => x_.elim))))))
def slices_symMergeCmpFunc_int_n : Nat → Int → Int → Int → List Int → Option Int → Option (List Int) → Option Int → Option (List Int)
  | 0 => fun _ _ _ _ _ _ _ => none
  | n + 1 => slices_symMergeCmpFunc_int_step (slices_symMergeCmpFunc_int_n n)
def slices_symMergeCmpFunc_int : Int → Int → Int → List Int → Option Int → Option (List Int) → Option Int → Option (List Int) := slices_symMergeCmpFunc_int_n bigN
def slices_stableCmpFunc_int_b1 (p0 : Int) (p2 : Option Int) (p3 : Option (List Int)) (p4 : Option Int) (s11 : Int × Int × List Int) : Option (Ctl (Int × Int × List Int) (Ctl (Int × List Int) (Empty))) :=
  (ifb (decide (s11.2.1 ≤ p0)) ((slices_insertionSortCmpFunc_int s11.1 s11.2.1 s11.2.2 p2 p3 p4).bind fun (x12 : List Int) => (some (.go (s11.2.1, w64 (s11.2.1 + 20), x12)))) (some (.out (.go (s11.1, s11.2.2)))))
def slices_stableCmpFunc_int_b3 (p0 : Int) (p2 : Option Int) (p3 : Option (List Int)) (p4 : Option Int) (s17 : Int × List Int) (s21 : Int × Int × List Int) : Option (Ctl (Int × Int × List Int) (Ctl (Int × List Int) (Empty))) :=
  (ifb (decide (s21.2.1 ≤ p0)) ((slices_symMergeCmpFunc_int s21.1 (w64 (s21.1 + s17.1)) s21.2.1 s21.2.2 p2 p3 p4).bind fun (x22 : List Int) => (some (.go (s21.2.1, w64 (s21.2.1 + (w64 (2 * s17.1))), x22)))) (some (.out (.go (s21.1, s21.2.2)))))
def slices_stableCmpFunc_int_b2 (p0 : Int) (p2 : Option Int) (p3 : Option (List Int)) (p4 : Option Int) (s17 : Int × List Int) : Option (Ctl (Int × List Int) (Ctl (List Int) (Empty))) :=
  (ifb (decide (s17.1 < p0)) ((iter (slices_stableCmpFunc_int_b3 p0 p2 p3 p4 s17) (0, w64 (2 * s17.1), s17.2)).bind fun c27 => Ctl.on c27 (fun s20 => ((ifb (decide ((w64 (s20.1 + s17.1)) < p0)) ((slices_symMergeCmpFunc_int s20.1 (w64 (s20.1 + s17.1)) p0 s20.2 p2 p3 p4).bind fun (x25 : List Int) => (some x25)) (some s20.2)).bind fun (s24 : List Int) => (some (.go (w64 (s17.1 * 2), s24))))) (fun x_ => x_.elim)) (some (.out (.go s17.2))))
def slices_stableCmpFunc_int (p0 : Int) (p1 : List Int) (p2 : Option Int) (p3 : Option (List Int)) (p4 : Option Int) : Option (List Int) :=
  ((iter (slices_stableCmpFunc_int_b1 p0 p2 p3 p4) (0, 20, p1)).bind fun c31 => Ctl.on c31 (fun s10 => ((slices_insertionSortCmpFunc_int s10.1 p0 s10.2 p2 p3 p4).bind fun (x13 : List Int) => ((iter (slices_stableCmpFunc_int_b2 p0 p2 p3 p4) (20, x13)).bind fun c29 => Ctl.on c29 (fun s16 => (some s16)) (fun x_ => x_.elim)))) (fun x_ => x_.elim))
def slices_SortStableFunc_int_int (p0 : List Int) (p1 : Option Int) (p2 : Option (List Int)) (p3 : Option Int) : Option (List Int) :=
  ((slices_stableCmpFunc_int ((p0.length) : Int) p0 p1 p2 p3).bind fun (x2 : List Int) => (some x2))
def fare_Shares_b1 (i16 : Nat) (x20 : Int) (s19 : Int) : Option (Ctl (Int) (Ctl (Int) (Int × List Int))) :=
  ((fare_within x20 0 10000).bind fun (x21 : Bool) => (ifb (!x21) (some (.out (.out (2, ([] : List Int))))) (some (.go (w64 (s19 + x20))))))
def fare_Shares_b2 (p0 : Int) (s18 : Int) (i22 : Nat) (x26 : Int) (s25 : Int × List Int × List Int) : Option (Ctl (Int × List Int × List Int) (Ctl (Int × List Int × List Int) (Empty))) :=
  ((gquoK .i64 (w64 (p0 * x26)) s18).bind fun (q27 : Int) => ((gapp 8 s25.2.1 [q27]).bind fun (x28 : List Int) => ((idx x28 (i22 : Int)).bind fun (x29 : Int) => ((gapp 8 s25.2.2 [(i22 : Int)]).bind fun (x30 : List Int) => (some (.go (w64 (s25.1 - x29), x28, x30)))))))
def fare_Shares_b3 (i33 : Nat) (x37 : Int) (s36 : List Int) : Option (Ctl (List Int) (Ctl (List Int) (Empty))) :=
  ((idx s36 x37).bind fun (x38 : Int) => ((idx s36 x37).bind fun (x39 : Int) => (some (.go (setI s36 x37 (w64 (x38 + 1)))))))
def fare_Shares (p0 : Int) (p1 : List Int) : Option (Int × List Int) :=
  ((fare_within p0 0 100000).bind fun (x14 : Bool) => (ifb (!x14) (some (2, ([] : List Int))) ((fare_within ((p1.length) : Int) 1 6).bind fun (x15 : Bool) => (ifb (!x15) (some (4, ([] : List Int))) ((forX fare_Shares_b1 p1 0).bind fun c45 => Ctl.on c45 (fun s18 => (ifb (s18 == 0) (some (1, ([] : List Int))) ((forX (fare_Shares_b2 p0 s18) p1 (p0, ([] : List Int), ([] : List Int))).bind fun c43 => Ctl.on c43 (fun s24 => ((slices_SortStableFunc_int_int s24.2.2 (some p0) (some p1) (some s18)).bind fun (x31 : List Int) => ((gcut x31 0 s24.1).bind fun (x32 : List Int) => ((forX fare_Shares_b3 x32 s24.2.1).bind fun c41 => Ctl.on c41 (fun s35 => (some (0, s35))) (fun x_ => x_.elim))))) (fun x_ => x_.elim)))) (fun r44 => (some r44)))))))
def fishkeep2_FareWhole_b1 (i17 : Nat) (x21 : Int) (s20 : Int) : Option (Ctl (Int) (Ctl (Int) (Empty))) :=
  (some (.go (w64 (s20 + x21))))
def fishkeep2_FareWhole_b2 (p0 : Int) (p1 : List Int) (s19 : Int) (i22 : Nat) (x26 : Int) (s25 : Int) : Option (Ctl (Int) (Ctl (Int) (Bool))) :=
  ((ifb (decide (x26 < 0)) (some true) (ifb (decide (x26 > p0)) (some true) ((idx p1 (i22 : Int)).bind fun (x30 : Int) => (ifb (decide ((w64 ((w64 (x26 * s19)) - (w64 (p0 * x30)))) ≥ s19)) (some true) ((idx p1 (i22 : Int)).bind fun (x31 : Int) => (some (decide ((w64 ((w64 (p0 * x31)) - (w64 (x26 * s19)))) ≥ s19)))))))).bind fun (s29 : Bool) => (ifb s29 (some (.out (.out false))) (some (.go (w64 (s25 + x26))))))
def fishkeep2_FareWhole (p0 : Int) (p1 : List Int) : Option (Bool) :=
  ((fishkeep2_awakeFare).bind fun (x12 : Bool) => (ifb (!x12) (some false) ((fishkeep2_fares).bind fun (x13 : Bool) => (ifb (!x13) (some false) ((fishref2_SharesFault p0 p1).bind fun (x14 : Int) => (ifb (x14 != 0) (some true) ((fare_Shares p0 p1).bind fun (x15 : Int × List Int) => ((ifb (x15.1 != 0) (some true) (some (((x15.2.length) : Int) != ((p1.length) : Int)))).bind fun (s16 : Bool) => (ifb s16 (some false) ((forX fishkeep2_FareWhole_b1 p1 0).bind fun c35 => Ctl.on c35 (fun s19 => ((forX (fishkeep2_FareWhole_b2 p0 p1 s19) x15.2 0).bind fun c33 => Ctl.on c33 (fun s24 => (some (s24 == p0))) (fun r32 => (some r32)))) (fun x_ => x_.elim)))))))))))
end Hd
