/- Functions of the program as plain functions. Printed by a tool. -/
import Derived.Test.YtohpilnjebnelaaDoorG1
set_option linter.unusedVariables false
set_option linter.unusedSimpArgs false
set_option maxRecDepth 100000
set_option maxHeartbeats 4000000
namespace Hd
open Go Hk
structure S_api_Stock where
  Name : ByteArray
  Length : Int
  Mass : Int
  Start : Int
  Power : Int
  Roll : Int
  Drag : Int
  Brake : Int
  Top : Int
  Seats : Int
structure S_64 where
  e0 : Int
  e1 : Int
  e2 : Int
  e3 : Int
  e4 : Int
  e5 : Int
  e6 : Int
  e7 : Int
  e8 : Int
structure S_api_Need where
  Kind : Int
  Place : Int
  Position : Int
  At : Int
structure S_api_Hold where
  Need : S_api_Need
  From : Int
  To : Int
structure S_62 where
  e0 : Int
  e1 : Int
def internal_stringslite_HasSuffix : Option (Unit) :=
  ((some ()).bind fun (s2 : Unit) => (some ()))
def internal_stringslite_CutSuffix : Option (Unit) :=
  ((internal_stringslite_HasSuffix).bind fun (x2 : Unit) => (some ()))
def strings_CutSuffix : Option (Unit) :=
  ((internal_stringslite_CutSuffix).bind fun (x2 : Unit) => (some ()))
def strings_Split (p0 : ByteArray) : Option (List ByteArray) := ssplit 10 p0
def strings_Split_v2 (p0 : ByteArray) : Option (List ByteArray) := ssplit 32 p0
def line_Lines_b1 (i8 : Nat) (x12 : ByteArray) (s11 : List (List ByteArray)) : Option (Ctl (List (List ByteArray)) (Ctl (List (List ByteArray)) (Empty))) :=
  ((strings_Split_v2 x12).bind fun (x13 : List ByteArray) => ((gapp 24 s11 [x13]).bind fun (x14 : List (List ByteArray)) => (some (.go x14))))
def line_Lines : Option (List (List ByteArray)) :=
  ((strings_CutSuffix).bind fun (x6 : Unit) => ((strings_Split (⟨#[120]⟩ : ByteArray)).bind fun (x7 : List ByteArray) => ((forX line_Lines_b1 x7 ([] : List (List ByteArray))).bind fun c16 => Ctl.on c16 (fun s10 => (some s10)) (fun x_ => x_.elim))))
def run_Read : Option (Unit) :=
  ((line_Lines).bind fun (x2 : List (List ByteArray)) => (some ()))
def fishkeep1_awakeRun : Option (Unit) :=
  ((run_Read).bind fun (x2 : Unit) => (some ()))
def run_name_b1 (i7 : Nat) (x11 : Int) (s10 : Unit) : Option (Ctl (Unit) (Ctl (Unit) (Bool))) :=
  ((ifb (decide (x11 < 97)) (some true) (some (decide (x11 > 122)))).bind fun (s12 : Bool) => (ifb s12 (some (.out (.out false))) (some (.go ()))))
def run_name (p0 : ByteArray) : Option (Bool) :=
  ((sbytes p0).bind fun (x6 : List Int) => ((forX run_name_b1 x6 ()).bind fun c15 => Ctl.on c15 (fun s9 => ((ifb (decide ((p0.size : Int) ≥ 1)) (some (decide ((p0.size : Int) ≤ 12))) (some false)).bind fun (s13 : Bool) => (some s13))) (fun r14 => (some r14))))
def run_numbers (p0 : S_api_Stock) : Option (Int × Int × Int × Int × Int × Int × Int × Int × Int) :=
  (some (p0.Length, p0.Mass, p0.Start, p0.Power, p0.Roll, p0.Drag, p0.Brake, p0.Top, p0.Seats))
def run_within (p0 : Int) (p1 : Int) (p2 : Int) : Option (Bool) :=
  ((ifb (decide (p0 ≥ p1)) (some (decide (p0 ≤ p2))) (some false)).bind fun (s2 : Bool) => (some s2))
def run_Check_b1 (x9 : Int × Int × Int × Int × Int × Int × Int × Int × Int) (s13 : Int) : Option (Ctl (Int) (Ctl (Unit) (Int))) :=
  (ifb (decide (s13 < 9)) ((idx [x9.1, x9.2.1, x9.2.2.1, x9.2.2.2.1, x9.2.2.2.2.1, x9.2.2.2.2.2.1, x9.2.2.2.2.2.2.1, x9.2.2.2.2.2.2.2.1, x9.2.2.2.2.2.2.2.2] s13).bind fun (x14 : Int) => ((gix 9 s13).bind fun (x15 : Unit) => ((gix 2 0).bind fun (x16 : Unit) => ((idx [10, 400, 10, 2000, 60, 150, 10000, 2000000, 0, 10, 1000000, 100000000, 60, 150, 500, 6000, 0, 1000] ((0 + s13 * 2) + 0 * 1)).bind fun (x17 : Int) => ((gix 9 s13).bind fun (x18 : Unit) => ((gix 2 1).bind fun (x19 : Unit) => ((idx [10, 400, 10, 2000, 60, 150, 10000, 2000000, 0, 10, 1000000, 100000000, 60, 150, 500, 6000, 0, 1000] ((0 + s13 * 2) + 1 * 1)).bind fun (x20 : Int) => ((run_within x14 x17 x20).bind fun (x21 : Bool) => (ifb (!x21) (some (.out (.out 2))) (some (.go (w64 (s13 + 1))))))))))))) (some (.out (.go ()))))
def run_Check (p0 : S_api_Stock) : Option (Int) :=
  ((run_name p0.Name).bind fun (x7 : Bool) => (ifb (!x7) (some 1) ((glen (List.replicate 18 (0 : Int)) 18).bind fun (x8 : Unit) => ((run_numbers p0).bind fun (x9 : Int × Int × Int × Int × Int × Int × Int × Int × Int) => ((iter (run_Check_b1 x9) 0).bind fun c23 => Ctl.on c23 (fun s12 => (some 0)) (fun r22 => (some r22)))))))
def run_gone (p0 : Int) (p1 : Int) : Option (Int) :=
  ((gquoK .i64 (w64 ((w64 (p0 + p1)) + 1)) 2).bind fun (q2 : Int) => (some q2))
def run_into_b1 (p0 : S_api_Stock) (p2 : Int) (s7 : Int × Int) : Option (Ctl (Int × Int) (Ctl (Int) (Empty))) :=
  (ifb (decide (s7.1 > p2)) ((run_gone s7.1 (gmax p2 (w64 (s7.1 - (w64 (p0.Brake - 40)))))).bind fun (x8 : Int) => (some (.go (gmax p2 (w64 (s7.1 - (w64 (p0.Brake - 40)))), w64 (s7.2 + x8))))) (some (.out (.go s7.2))))
def run_into (p0 : S_api_Stock) (p1 : Int) (p2 : Int) : Option (Int) :=
  ((iter (run_into_b1 p0 p2) (p1, 0)).bind fun c10 => Ctl.on c10 (fun s6 => (some s6)) (fun x_ => x_.elim))
def run_Into (p0 : S_api_Stock) (p1 : Int) (p2 : Int) : Option (Int × Int) :=
  ((run_Check p0).bind fun (x6 : Int) => (ifb (x6 != 0) (some (0, x6)) (((run_within p1 0 6000).bind fun (x10 : Bool) => (ifb (!x10) (some true) ((run_within p2 0 6000).bind fun (x11 : Bool) => (some (!x11))))).bind fun (s9 : Bool) => (ifb s9 (some (0, 2)) ((run_into p0 p1 p2).bind fun (x12 : Int) => (some (x12, 0)))))))
def run_Stop (p0 : S_api_Stock) (p1 : Int) : Option (Int × Int) :=
  ((run_Into p0 p1 0).bind fun (x2 : Int × Int) => (some (x2.1, x2.2)))
def fishkeep1_RunStands (p0 : S_api_Stock) (p1 : Int) (p2 : Int) : Option (Bool) :=
  ((fishkeep1_awakeRun).bind fun (x14 : Unit) => (((run_Check p0).bind fun (x17 : Int) => (ifb (x17 != 0) (some true) (ifb (decide (p1 < 1)) (some true) (ifb (decide (p1 > 6000)) (some true) (ifb (decide (p2 < 0)) (some true) (some (decide (p2 > 6000)))))))).bind fun (s16 : Bool) => (ifb s16 (some true) ((run_Stop p0 p1).bind fun (x18 : Int × Int) => ((run_Stop p0 (gmax (w64 (p1 - (w64 (p0.Brake - 40)))) 0)).bind fun (x19 : Int × Int) => ((run_Stop p0 (w64 (p1 - 1))).bind fun (x20 : Int × Int) => ((ifb (x18.2 != 0) (some true) (ifb (x19.2 != 0) (some true) (ifb (x20.2 != 0) (some true) ((gquoK .i64 (w64 ((w64 (p1 + (gmax (w64 (p1 - (w64 (p0.Brake - 40)))) 0))) + 1)) 2).bind fun (q23 : Int) => (ifb (x18.1 != (w64 (q23 + x19.1))) (some true) (some (decide (x20.1 > x18.1)))))))).bind fun (s22 : Bool) => (ifb s22 (some false) ((run_Into p0 p1 p2).bind fun (x24 : Int × Int) => (ifb (decide (p2 ≥ p1)) ((ifb (x24.2 == 0) (some (x24.1 == 0)) (some false)).bind fun (s25 : Bool) => (some s25)) ((run_Into p0 (gmax (w64 (p1 - (w64 (p0.Brake - 40)))) p2) p2).bind fun (x26 : Int × Int) => ((ifb (x24.2 == 0) (ifb (x26.2 == 0) ((gquoK .i64 (w64 ((w64 (p1 + (gmax (w64 (p1 - (w64 (p0.Brake - 40)))) p2))) + 1)) 2).bind fun (q29 : Int) => (some (x24.1 == (w64 (q29 + x26.1))))) (some false)) (some false)).bind fun (s28 : Bool) => (some s28)))))))))))))
def line_Meets_1 (p0 : S_api_Need) : Option (Bool) :=
  ((ifb (p0.Kind == 1) (some true) (some (p0.Kind == 2))).bind fun (s2 : Bool) => (some s2))
def line_Meets_2 (p0 : S_api_Need) (p1 : S_api_Need) : Option (Bool) :=
  ((ifb (p0.Kind == 3) (ifb (p1.Kind == 3) (some (p0.Position != p1.Position)) ((line_Meets_1 p1).bind fun (x5 : Bool) => (ifb x5 (some (p0.Position != p1.Position)) (some false)))) (some false)).bind fun (s4 : Bool) => (some s4))
def line_Meets_3 (p0 : S_api_Need) (p1 : S_api_Need) : Option (Bool) :=
  ((ifb (p0.Kind == 4) (some (p1.Kind == 5)) (some false)).bind fun (s2 : Bool) => (some s2))
def line_Meets (p0 : S_api_Need) (p1 : S_api_Need) : Option (Bool) :=
  (ifb (p0.Place != p1.Place) (some false) (((line_Meets_1 p0).bind fun (x23 : Bool) => (ifb x23 ((line_Meets_1 p1).bind fun (x24 : Bool) => (ifb x24 (some true) ((line_Meets_2 p0 p1).bind fun (x25 : Bool) => (ifb x25 (some true) ((line_Meets_2 p1 p0).bind fun (x26 : Bool) => (ifb x26 (some true) ((line_Meets_3 p0 p1).bind fun (x27 : Bool) => (ifb x27 (some true) ((line_Meets_3 p1 p0).bind fun (x28 : Bool) => (some x28)))))))))) ((line_Meets_2 p0 p1).bind fun (x29 : Bool) => (ifb x29 (some true) ((line_Meets_2 p1 p0).bind fun (x30 : Bool) => (ifb x30 (some true) ((line_Meets_3 p0 p1).bind fun (x31 : Bool) => (ifb x31 (some true) ((line_Meets_3 p1 p0).bind fun (x32 : Bool) => (some x32)))))))))).bind fun (s22 : Bool) => (some s22)))
def run_Headway_b2 (x8 : S_api_Hold) (i9 : Nat) (x13 : S_api_Hold) (s12 : Int) : Option (Ctl (Int) (Ctl (Int) (Empty))) :=
  ((line_Meets x8.Need x13.Need).bind fun (x14 : Bool) => (ifb x14 (some (.go (gmax s12 (w64 (x8.To - x13.From))))) (some (.go s12))))
def run_Headway_b1 (p1 : List S_api_Hold) (i4 : Nat) (x8 : S_api_Hold) (s7 : Int) : Option (Ctl (Int) (Ctl (Int) (Empty))) :=
  ((forX (run_Headway_b2 x8) p1 s7).bind fun c16 => Ctl.on c16 (fun s11 => (some (.go s11))) (fun x_ => x_.elim))
def run_Headway (p0 : List S_api_Hold) (p1 : List S_api_Hold) : Option (Int) :=
  ((forX (run_Headway_b1 p1) p0 0).bind fun c18 => Ctl.on c18 (fun s6 => (some s6)) (fun x_ => x_.elim))
def run_Conflicts_b2 (i4 : Nat) (x8 : S_api_Hold) (i9 : Nat) (x13 : S_api_Hold) (s12 : List S_62) : Option (Ctl (List S_62) (Ctl (List S_62) (Empty))) :=
  (((line_Meets x8.Need x13.Need).bind fun (x16 : Bool) => (ifb x16 (ifb (decide (x8.From < x13.To)) (some (decide (x13.From < x8.To))) (some false)) (some false))).bind fun (s15 : Bool) => (ifb s15 ((gapp 16 s12 [(S_62.mk (i4 : Int) (i9 : Int))]).bind fun (x17 : List S_62) => (some (.go x17))) (some (.go s12))))
def run_Conflicts_b1 (p1 : List S_api_Hold) (i4 : Nat) (x8 : S_api_Hold) (s7 : List S_62) : Option (Ctl (List S_62) (Ctl (List S_62) (Empty))) :=
  ((forX (run_Conflicts_b2 i4 x8) p1 s7).bind fun c19 => Ctl.on c19 (fun s11 => (some (.go s11))) (fun x_ => x_.elim))
def run_Conflicts (p0 : List S_api_Hold) (p1 : List S_api_Hold) : Option (List S_62) :=
  ((forX (run_Conflicts_b1 p1) p0 ([] : List S_62)).bind fun c21 => Ctl.on c21 (fun s6 => (some s6)) (fun x_ => x_.elim))
def fishkeep1_RunApart_b2 (i19 : Nat) (x23 : S_api_Hold) (s22 : Unit) : Option (Ctl (Unit) (Ctl (Unit) (Bool))) :=
  ((ifb (decide (x23.From < (-1099511627776))) (some true) (ifb (decide (x23.From > 1099511627776)) (some true) (ifb (decide (x23.To < (-1099511627776))) (some true) (some (decide (x23.To > 1099511627776)))))).bind fun (s24 : Bool) => (ifb s24 (some (.out (.out true))) (some (.go ()))))
def fishkeep1_RunApart_b1 (p0 : List S_api_Hold) (p1 : List S_api_Hold) (i14 : Nat) (s17 : Unit) : Option (Ctl (Unit) (Ctl (Unit) (Bool))) :=
  ((idx [p0, p1] (i14 : Int)).bind fun (x18 : List S_api_Hold) => ((forX fishkeep1_RunApart_b2 x18 ()).bind fun c26 => Ctl.on c26 (fun s21 => (some (.go ()))) (fun r25 => (some (.out (.out r25))))))
def fishkeep1_RunApart_b3 (p2 : Int) (x27 : Int) (i28 : Nat) (x32 : S_api_Hold) (s31 : List S_api_Hold) : Option (Ctl (List S_api_Hold) (Ctl (List S_api_Hold) (Bool))) :=
  ((ifb (decide ((w64 ((w64 (x32.From + x27)) + p2)) > 1099511627776)) (some true) (some (decide ((w64 ((w64 (x32.To + x27)) + p2)) > 1099511627776)))).bind fun (s33 : Bool) => (ifb s33 (some (.out (.out true))) ((gapp 48 s31 [(S_api_Hold.mk x32.Need (w64 ((w64 (x32.From + x27)) + p2)) (w64 ((w64 (x32.To + x27)) + p2)))]).bind fun (x34 : List S_api_Hold) => (some (.go x34)))))
def fishkeep1_RunApart (p0 : List S_api_Hold) (p1 : List S_api_Hold) (p2 : Int) : Option (Bool) :=
  ((fishkeep1_awakeRun).bind fun (x12 : Unit) => ((ifb (decide (p2 < 0)) (some true) (some (decide (p2 > 1099511627776)))).bind fun (s13 : Bool) => (ifb s13 (some true) ((forN (fishkeep1_RunApart_b1 p0 p1) ([p0, p1].length) ()).bind fun c41 => Ctl.on c41 (fun s16 => ((run_Headway p0 p1).bind fun (x27 : Int) => ((forX (fishkeep1_RunApart_b3 p2 x27) p1 ([] : List S_api_Hold)).bind fun c39 => Ctl.on c39 (fun s30 => ((ifb (decide (x27 ≥ 0)) ((run_Conflicts p0 s30).bind fun (x37 : List S_62) => (some ((((x37.length) : Int) == 0), s30))) (some (false, s30))).bind fun (s36 : Bool × List S_api_Hold) => (some s36.1))) (fun r38 => (some r38))))) (fun r40 => (some r40))))))
def run_Allowed_b1 (p0 : S_api_Stock) (p1 : Int) (p2 : Int) (s14 : Int × Int) : Option (Ctl (Int × Int) (Ctl (Int) (Empty))) :=
  (ifb (decide (s14.1 < s14.2)) ((gquoK .i64 (w64 ((w64 (s14.1 + s14.2)) + 1)) 2).bind fun (q15 : Int) => ((run_into p0 q15 p2).bind fun (x16 : Int) => (ifb (decide (x16 ≤ p1)) (some (.go (q15, s14.2))) (some (.go (s14.1, w64 (q15 - 1))))))) (some (.out (.go s14.1))))
def run_Allowed (p0 : S_api_Stock) (p1 : Int) (p2 : Int) : Option (Int × Int) :=
  ((run_Check p0).bind fun (x7 : Int) => (ifb (x7 != 0) (some (0, x7)) ((ifb (decide (p1 < 0)) (some true) ((run_within p2 0 6000).bind fun (x10 : Bool) => (some (!x10)))).bind fun (s9 : Bool) => (ifb s9 (some (0, 2)) ((iter (run_Allowed_b1 p0 p1 p2) (gmin p2 p0.Top, p0.Top)).bind fun c18 => Ctl.on c18 (fun s13 => (some (s13, 0))) (fun x_ => x_.elim))))))
def fishkeep1_RunAllowed (p0 : S_api_Stock) (p1 : Int) (p2 : Int) : Option (Bool) :=
  ((fishkeep1_awakeRun).bind fun (x7 : Unit) => ((run_Allowed p0 p1 p2).bind fun (x8 : Int × Int) => (ifb (x8.2 != 0) (some (x8.1 == 0)) ((run_Into p0 x8.1 p2).bind fun (x9 : Int × Int) => ((ifb (x9.2 != 0) (some true) (ifb (decide (x9.1 > p1)) (some true) (ifb (decide (x8.1 > p0.Top)) (some true) (some (decide (x8.1 < (gmin p2 p0.Top))))))).bind fun (s10 : Bool) => (ifb s10 (some false) (ifb (x8.1 == p0.Top) (some true) ((run_Into p0 (w64 (x8.1 + 1)) p2).bind fun (x11 : Int × Int) => ((ifb (x11.2 == 0) (some (decide (x11.1 > p1))) (some false)).bind fun (s12 : Bool) => (some s12))))))))))
def run_Smooth_1_b1 (p0 : Int) (p2 : Option (List Int)) (p3 : Option Int) (i6 : Nat) (x10 : Int) (s9 : Unit) : Option (Ctl (Unit) (Ctl (Unit) (Bool))) :=
  ((p2).bind fun (x11 : List Int) => ((idx x11 (w64 (p0 + (i6 : Int)))).bind fun (x12 : Int) => ((p3).bind fun (x13 : Int) => (ifb (decide ((w64 (x12 + x10)) > x13)) (some (.out (.out false))) (some (.go ()))))))
def run_Smooth_1 (p0 : Int) (p1 : Option (List Int)) (p2 : Option (List Int)) (p3 : Option Int) : Option (Bool) :=
  ((p1).bind fun (x5 : List Int) => ((forX (run_Smooth_1_b1 p0 p2 p3) x5 ()).bind fun c15 => Ctl.on c15 (fun s8 => (some true)) (fun r14 => (some r14))))
def run_Smooth_b1 (i14 : Nat) (x18 : List Int) (s17 : Unit) : Option (Ctl (Unit) (Ctl (Unit) (Int × List Int))) :=
  (ifb (decide (((x18.length) : Int) > 3600)) (some (.out (.out (4, ([] : List Int))))) (some (.go ())))
def run_Smooth_b3 (i24 : Nat) (x28 : Int) (s27 : Unit) : Option (Ctl (Unit) (Ctl (Unit) (Int × List Int))) :=
  ((run_within x28 0 1125899906842624).bind fun (x29 : Bool) => (ifb (!x29) (some (.out (.out (2, ([] : List Int))))) (some (.go ()))))
def run_Smooth_b2 (i19 : Nat) (x23 : List Int) (s22 : Unit) : Option (Ctl (Unit) (Ctl (Unit) (Int × List Int))) :=
  ((forX run_Smooth_b3 x23 ()).bind fun c31 => Ctl.on c31 (fun s26 => (some (.go ()))) (fun r30 => (some (.out (.out r30)))))
def run_Smooth_b5 (p1 : Int) (p2 : Int) (s41 : List Int × List Int) (x42 : List Int) (s46 : Int) : Option (Ctl (Int) (Ctl (Int) (Empty))) :=
  ((ifb (decide (s46 ≤ p2)) ((run_Smooth_1 s46 (some x42) (some s41.1) (some p1)).bind fun (x49 : Bool) => (some (!x49))) (some false)).bind fun (s48 : Bool) => (ifb s48 (some (.go (w64 (s46 + 1)))) (some (.out (.go s46)))))
def run_Smooth_b6 (s45 : Int) (i50 : Nat) (x54 : Int) (s53 : List Int) : Option (Ctl (List Int) (Ctl (List Int) (Empty))) :=
  ((idx s53 (w64 (s45 + (i50 : Int)))).bind fun (x55 : Int) => ((idx s53 (w64 (s45 + (i50 : Int)))).bind fun (x56 : Int) => (some (.go (setI s53 (w64 (s45 + (i50 : Int))) (w64 (x55 + x54)))))))
def run_Smooth_b4 (p1 : Int) (p2 : Int) (i38 : Nat) (x42 : List Int) (s41 : List Int × List Int) : Option (Ctl (List Int × List Int) (Ctl (List Int × List Int) (Int × List Int))) :=
  ((iter (run_Smooth_b5 p1 p2 s41 x42) 0).bind fun c61 => Ctl.on c61 (fun s45 => (ifb (decide (s45 > p2)) (some (.out (.out (9, ([] : List Int))))) ((forX (run_Smooth_b6 s45) x42 s41.1).bind fun c59 => Ctl.on c59 (fun s52 => ((gapp 8 s41.2 [s45]).bind fun (x57 : List Int) => (some (.go (s52, x57))))) (fun x_ => x_.elim)))) (fun x_ => x_.elim))
def run_Smooth (p0 : List (List Int)) (p1 : Int) (p2 : Int) : Option (Int × List Int) :=
  (ifb (decide (((p0.length) : Int) > 12)) (some (4, ([] : List Int))) ((forX run_Smooth_b1 p0 ()).bind fun c67 => Ctl.on c67 (fun s16 => ((forX run_Smooth_b2 p0 ()).bind fun c65 => Ctl.on c65 (fun s21 => (((run_within p1 0 36028797018963968).bind fun (x35 : Bool) => (ifb (!x35) (some true) ((run_within p2 0 3600).bind fun (x36 : Bool) => (some (!x36))))).bind fun (s34 : Bool) => (ifb s34 (some (2, ([] : List Int))) ((gmake 8 (w64 (p2 + 3600)) (0 : Int)).bind fun (x37 : List Int) => ((forX (run_Smooth_b4 p1 p2) p0 (x37, ([] : List Int))).bind fun c63 => Ctl.on c63 (fun s40 => (some (0, s40.2))) (fun r62 => (some r62))))))) (fun r64 => (some r64)))) (fun r66 => (some r66))))
def fishkeep1_fits_b1 (p0 : List Int) (p2 : Int) (p3 : Int) (i4 : Nat) (x8 : Int) (s7 : Unit) : Option (Ctl (Unit) (Ctl (Unit) (Bool))) :=
  ((idx p0 (w64 (p2 + (i4 : Int)))).bind fun (x9 : Int) => (ifb (decide ((w64 (x9 + x8)) > p3)) (some (.out (.out false))) (some (.go ()))))
def fishkeep1_fits (p0 : List Int) (p1 : List Int) (p2 : Int) (p3 : Int) : Option (Bool) :=
  ((forX (fishkeep1_fits_b1 p0 p2 p3) p1 ()).bind fun c11 => Ctl.on c11 (fun s6 => (some true)) (fun r10 => (some r10)))
def fishkeep1_RunSmooth_b2 (x8 : Int × List Int) (i10 : Nat) (i30 : Nat) (x34 : Int) (s33 : List Int) : Option (Ctl (List Int) (Ctl (List Int) (Empty))) :=
  ((idx x8.2 (i10 : Int)).bind fun (x35 : Int) => ((idx s33 (w64 (x35 + (i30 : Int)))).bind fun (x36 : Int) => ((idx s33 (w64 (x35 + (i30 : Int)))).bind fun (x37 : Int) => (some (.go (setI s33 (w64 (x35 + (i30 : Int))) (w64 (x36 + x34))))))))
def fishkeep1_RunSmooth_b1 (p1 : Int) (p2 : Int) (x8 : Int × List Int) (i10 : Nat) (x14 : List Int) (s13 : List Int) : Option (Ctl (List Int) (Ctl (List Int) (Bool))) :=
  (((idx x8.2 (i10 : Int)).bind fun (x23 : Int) => (ifb (decide (x23 < 0)) (some true) ((idx x8.2 (i10 : Int)).bind fun (x24 : Int) => (ifb (decide (x24 > p2)) (some true) ((idx x8.2 (i10 : Int)).bind fun (x25 : Int) => ((fishkeep1_fits s13 x14 x25 p1).bind fun (x26 : Bool) => (ifb (!x26) (some true) ((idx x8.2 (i10 : Int)).bind fun (x27 : Int) => (ifb (decide (x27 > 0)) ((idx x8.2 (i10 : Int)).bind fun (x28 : Int) => ((fishkeep1_fits s13 x14 (w64 (x28 - 1)) p1).bind fun (x29 : Bool) => (some x29))) (some false)))))))))).bind fun (s22 : Bool) => (ifb s22 (some (.out (.out false))) ((forX (fishkeep1_RunSmooth_b2 x8 i10) x14 s13).bind fun c39 => Ctl.on c39 (fun s32 => (some (.go s32))) (fun x_ => x_.elim))))
def fishkeep1_RunSmooth (p0 : List (List Int)) (p1 : Int) (p2 : Int) : Option (Bool) :=
  ((fishkeep1_awakeRun).bind fun (x7 : Unit) => ((run_Smooth p0 p1 p2).bind fun (x8 : Int × List Int) => (ifb (x8.1 != 0) (some (((x8.2.length) : Int) == 0)) (ifb (((x8.2.length) : Int) != ((p0.length) : Int)) (some false) ((gmakec 8 7201 7201 (0 : Int)).bind fun (x9 : List Int) => ((forX (fishkeep1_RunSmooth_b1 p1 p2 x8) p0 x9).bind fun c41 => Ctl.on c41 (fun s12 => (some true)) (fun r40 => (some r40))))))))
end Hd
