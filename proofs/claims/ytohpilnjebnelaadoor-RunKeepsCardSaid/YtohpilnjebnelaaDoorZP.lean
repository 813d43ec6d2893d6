/- Functions of the program as plain functions. Printed by a tool. -/
import Derived.Test.YtohpilnjebnelaaDoorG1
set_option linter.unusedVariables false
set_option linter.unusedSimpArgs false
set_option maxRecDepth 100000
set_option maxHeartbeats 4000000
namespace Hd
open Go Hk
structure S_api_Stock where
  Name : ByteArray
  Length : Int
  Mass : Int
  Start : Int
  Power : Int
  Roll : Int
  Drag : Int
  Brake : Int
  Top : Int
  Seats : Int
structure S_api_Piece where
  Length : Int
  Grade : Int
  Speed : Int
structure S_api_State where
  At : Int
  Speed : Int
  Work : Int
structure S_64 where
  e0 : Int
  e1 : Int
  e2 : Int
  e3 : Int
  e4 : Int
  e5 : Int
  e6 : Int
  e7 : Int
  e8 : Int
def internal_stringslite_HasSuffix : Option (Unit) :=
  ((some ()).bind fun (s2 : Unit) => (some ()))
def internal_stringslite_CutSuffix : Option (Unit) :=
  ((internal_stringslite_HasSuffix).bind fun (x2 : Unit) => (some ()))
def strings_CutSuffix : Option (Unit) :=
  ((internal_stringslite_CutSuffix).bind fun (x2 : Unit) => (some ()))
def strings_Split (p0 : ByteArray) : Option (List ByteArray) := ssplit 10 p0
def strings_Split_v2 (p0 : ByteArray) : Option (List ByteArray) := ssplit 32 p0
def line_Lines_b1 (i8 : Nat) (x12 : ByteArray) (s11 : List (List ByteArray)) : Option (Ctl (List (List ByteArray)) (Ctl (List (List ByteArray)) (Empty))) :=
  ((strings_Split_v2 x12).bind fun (x13 : List ByteArray) => ((gapp 24 s11 [x13]).bind fun (x14 : List (List ByteArray)) => (some (.go x14))))
def line_Lines : Option (List (List ByteArray)) :=
  ((strings_CutSuffix).bind fun (x6 : Unit) => ((strings_Split (⟨#[120]⟩ : ByteArray)).bind fun (x7 : List ByteArray) => ((forX line_Lines_b1 x7 ([] : List (List ByteArray))).bind fun c16 => Ctl.on c16 (fun s10 => (some s10)) (fun x_ => x_.elim))))
def run_Read : Option (Unit) :=
  ((line_Lines).bind fun (x2 : List (List ByteArray)) => (some ()))
def fishkeep1_awakeRun : Option (Unit) :=
  ((run_Read).bind fun (x2 : Unit) => (some ()))
def run_name_b1 (i7 : Nat) (x11 : Int) (s10 : Unit) : Option (Ctl (Unit) (Ctl (Unit) (Bool))) :=
  ((ifb (decide (x11 < 97)) (some true) (some (decide (x11 > 122)))).bind fun (s12 : Bool) => (ifb s12 (some (.out (.out false))) (some (.go ()))))
def run_name (p0 : ByteArray) : Option (Bool) :=
  ((sbytes p0).bind fun (x6 : List Int) => ((forX run_name_b1 x6 ()).bind fun c15 => Ctl.on c15 (fun s9 => ((ifb (decide ((p0.size : Int) ≥ 1)) (some (decide ((p0.size : Int) ≤ 12))) (some false)).bind fun (s13 : Bool) => (some s13))) (fun r14 => (some r14))))
def run_numbers (p0 : S_api_Stock) : Option (Int × Int × Int × Int × Int × Int × Int × Int × Int) :=
  (some (p0.Length, p0.Mass, p0.Start, p0.Power, p0.Roll, p0.Drag, p0.Brake, p0.Top, p0.Seats))
def run_within (p0 : Int) (p1 : Int) (p2 : Int) : Option (Bool) :=
  ((ifb (decide (p0 ≥ p1)) (some (decide (p0 ≤ p2))) (some false)).bind fun (s2 : Bool) => (some s2))
def run_Check_b1 (x9 : Int × Int × Int × Int × Int × Int × Int × Int × Int) (s13 : Int) : Option (Ctl (Int) (Ctl (Unit) (Int))) :=
  (ifb (decide (s13 < 9)) ((idx [x9.1, x9.2.1, x9.2.2.1, x9.2.2.2.1, x9.2.2.2.2.1, x9.2.2.2.2.2.1, x9.2.2.2.2.2.2.1, x9.2.2.2.2.2.2.2.1, x9.2.2.2.2.2.2.2.2] s13).bind fun (x14 : Int) => ((gix 9 s13).bind fun (x15 : Unit) => ((gix 2 0).bind fun (x16 : Unit) => ((idx [10, 400, 10, 2000, 60, 150, 10000, 2000000, 0, 10, 1000000, 100000000, 60, 150, 500, 6000, 0, 1000] ((0 + s13 * 2) + 0 * 1)).bind fun (x17 : Int) => ((gix 9 s13).bind fun (x18 : Unit) => ((gix 2 1).bind fun (x19 : Unit) => ((idx [10, 400, 10, 2000, 60, 150, 10000, 2000000, 0, 10, 1000000, 100000000, 60, 150, 500, 6000, 0, 1000] ((0 + s13 * 2) + 1 * 1)).bind fun (x20 : Int) => ((run_within x14 x17 x20).bind fun (x21 : Bool) => (ifb (!x21) (some (.out (.out 2))) (some (.go (w64 (s13 + 1))))))))))))) (some (.out (.go ()))))
def run_Check (p0 : S_api_Stock) : Option (Int) :=
  ((run_name p0.Name).bind fun (x7 : Bool) => (ifb (!x7) (some 1) ((glen (List.replicate 18 (0 : Int)) 18).bind fun (x8 : Unit) => ((run_numbers p0).bind fun (x9 : Int × Int × Int × Int × Int × Int × Int × Int × Int) => ((iter (run_Check_b1 x9) 0).bind fun c23 => Ctl.on c23 (fun s12 => (some 0)) (fun r22 => (some r22)))))))
def run_check_b1 (i11 : Nat) (x15 : S_api_Piece) (s14 : Int) : Option (Ctl (Int) (Ctl (Int) (Int))) :=
  (((run_within x15.Length 1 300000).bind fun (x20 : Bool) => (ifb (!x20) (some true) ((run_within x15.Grade (-40) 40).bind fun (x21 : Bool) => (ifb (!x21) (some true) ((run_within x15.Speed 1 6000).bind fun (x22 : Bool) => (some (!x22))))))).bind fun (s19 : Bool) => (ifb s19 (some (.out (.out 2))) (some (.go (w64 (s14 + x15.Length))))))
def run_check (p0 : S_api_Stock) (p1 : List S_api_Piece) (p2 : S_api_State) (p3 : Int) : Option (Int) :=
  ((run_Check p0).bind fun (x10 : Int) => (ifb (x10 != 0) (some x10) (ifb (((p1.length) : Int) == 0) (some 1) (ifb (decide (((p1.length) : Int) > 60)) (some 4) ((forX run_check_b1 p1 0).bind fun c33 => Ctl.on c33 (fun s13 => (((run_within p3 0 s13).bind fun (x28 : Bool) => (ifb (!x28) (some true) ((run_within p2.At 0 p3).bind fun (x29 : Bool) => (ifb (!x29) (some true) ((run_within p2.Speed 0 p0.Top).bind fun (x30 : Bool) => (ifb (!x30) (some true) ((run_within p2.Work 0 1152921504606846976).bind fun (x31 : Bool) => (some (!x31))))))))).bind fun (s27 : Bool) => (ifb s27 (some 2) (some 0)))) (fun r32 => (some r32)))))))
def run_newRunner_b1 (i4 : Nat) (x8 : S_api_Piece) (s7 : List Int) : Option (Ctl (List Int) (Ctl (List Int) (Empty))) :=
  ((idx s7 (i4 : Int)).bind fun (x9 : Int) => ((gapp 8 s7 [w64 (x9 + x8.Length)]).bind fun (x10 : List Int) => (some (.go x10))))
def run_newRunner (p0 : S_api_Stock) (p1 : List S_api_Piece) (p2 : Int) (p3 : Int) : Option (ByteArray × Int × Int × Int × Int × Int × Int × Int × Int × Int × List S_api_Piece × Int × Int × List Int × (List (Int × (List Int)))) :=
  ((forX run_newRunner_b1 p1 [0]).bind fun c12 => Ctl.on c12 (fun s6 => (some (p0.Name, p0.Length, p0.Mass, p0.Start, p0.Power, p0.Roll, p0.Drag, p0.Brake, p0.Top, p0.Seats, p1, p2, p3, s6, ([] : List (Int × (List Int)))))) (fun x_ => x_.elim))
def run_runner_grade_b1 (p0 : Int) (p11 : List S_api_Piece) (p12 : List Int) (s8 : Int) : Option (Ctl (Int) (Ctl (Int) (Empty))) :=
  ((ifb (decide ((w64 (s8 + 1)) < ((p11.length) : Int))) ((idx p12 (w64 (s8 + 1))).bind fun (x11 : Int) => (some (decide (x11 ≤ p0)))) (some false)).bind fun (s10 : Bool) => (ifb s10 (some (.go (w64 (s8 + 1)))) (some (.out (.go s8)))))
def run_runner_grade (p0 : Int) (p1 : ByteArray) (p2 : Int) (p3 : Int) (p4 : Int) (p5 : Int) (p6 : Int) (p7 : Int) (p8 : Int) (p9 : Int) (p10 : Int) (p11 : List S_api_Piece) (p12 : List Int) (p13 : Int) (p14 : Int) (p15 : List (Int × (List Int))) : Option (Int × List S_api_Piece × List Int) :=
  ((iter (run_runner_grade_b1 p0 p11 p12) 0).bind fun c14 => Ctl.on c14 (fun s7 => ((idx p11 s7).bind fun (x12 : S_api_Piece) => (some (x12.Grade, p11, p12)))) (fun x_ => x_.elim))
def run_pull (p0 : S_api_Stock) (p1 : Int) : Option (Int) :=
  (ifb (p1 == 0) (some p0.Start) ((gquoK .i64 p0.Power p1).bind fun (q2 : Int) => (some (gmin p0.Start q2))))
def run_gain (p0 : S_api_Stock) (p1 : Int) (p2 : Int) : Option (Int) :=
  ((run_pull p0 p1).bind fun (x3 : Int) => ((gquoK .i64 (w64 (p1 * p1)) p0.Drag).bind fun (q4 : Int) => (some (w64 ((w64 ((w64 (x3 - p0.Roll)) - q4)) - p2)))))
def run_gone (p0 : Int) (p1 : Int) : Option (Int) :=
  ((gquoK .i64 (w64 ((w64 (p0 + p1)) + 1)) 2).bind fun (q2 : Int) => (some q2))
def run_runner_into_b1 (p0 : Int) (p1 : Int) (p9 : Int) (s9 : Int × List Int) : Option (Ctl (Int × List Int) (Ctl (List Int) (Empty))) :=
  (ifb (decide (s9.1 ≤ p0)) ((ifb (decide (s9.1 > p1)) ((run_gone s9.1 (gmax p1 (w64 (s9.1 - (w64 (p9 - 40)))))).bind fun (x13 : Int) => ((idx s9.2 (gmax p1 (w64 (s9.1 - (w64 (p9 - 40)))))).bind fun (x14 : Int) => (some (w64 (x13 + x14))))) (some 0)).bind fun (s12 : Int) => ((gapp 8 s9.2 [s12]).bind fun (x15 : List Int) => (some (.go (w64 (s9.1 + 1), x15))))) (some (.out (.go s9.2))))
def run_runner_into (p0 : Int) (p1 : Int) (p2 : ByteArray) (p3 : Int) (p4 : Int) (p5 : Int) (p6 : Int) (p7 : Int) (p8 : Int) (p9 : Int) (p10 : Int) (p11 : Int) (p12 : List S_api_Piece) (p13 : List Int) (p14 : Int) (p15 : Int) (p16 : List (Int × (List Int))) : Option (Int × (List (Int × (List Int))) × List S_api_Piece × List Int) :=
  (ifb (decide (p0 ≤ p1)) (some (0, p16, p12, p13)) ((iter (run_runner_into_b1 p0 p1 p9) (((((mfind ieq p1 p16).getD []).length) : Int), ((mfind ieq p1 p16).getD []))).bind fun c19 => Ctl.on c19 (fun s8 => ((keyIs ieq p1 p1).bind fun (x16 : Unit) => ((idx s8 p0).bind fun (x17 : Int) => (some (x17, (mset ieq p1 s8 (mset ieq p1 s8 p16)), p12, p13))))) (fun x_ => x_.elim)))
def run_runner_may_b1 (p0 : Int) (p1 : Int) (p2 : Int) (p3 : ByteArray) (p4 : Int) (p5 : Int) (p6 : Int) (p7 : Int) (p8 : Int) (p9 : Int) (p10 : Int) (p11 : Int) (p12 : Int) (p15 : Int) (p16 : Int) (i6 : Nat) (x10 : S_api_Piece) (s9 : (List (Int × (List Int))) × List S_api_Piece × List Int) : Option (Ctl ((List (Int × (List Int))) × List S_api_Piece × List Int) (Ctl ((List (Int × (List Int))) × List S_api_Piece × List Int) (Bool × (List (Int × (List Int))) × List S_api_Piece × List Int))) :=
  ((idx s9.2.2 (i6 : Int)).bind fun (x11 : Int) => (ifb (decide (x11 ≥ p1)) ((run_runner_into p2 x10.Speed p3 p4 p5 p6 p7 p8 p9 p10 p11 p12 s9.2.1 s9.2.2 p15 p16 s9.1).bind fun (x12 : Int × (List (Int × (List Int))) × List S_api_Piece × List Int) => (ifb (decide (x12.1 > (w64 (x11 - p1)))) (some (.out (.out (false, x12.2.1, x12.2.2.1, x12.2.2.2)))) (some (.go (x12.2.1, x12.2.2.1, x12.2.2.2))))) (((idx s9.2.2 (w64 ((i6 : Int) + 1))).bind fun (x15 : Int) => (ifb (decide (x15 > p0)) (some (decide (p2 > x10.Speed))) (some false))).bind fun (s14 : Bool) => (ifb s14 (some (.out (.out (false, s9.1, s9.2.1, s9.2.2)))) (some (.go (s9.1, s9.2.1, s9.2.2)))))))
def run_runner_may (p0 : Int) (p1 : Int) (p2 : Int) (p3 : ByteArray) (p4 : Int) (p5 : Int) (p6 : Int) (p7 : Int) (p8 : Int) (p9 : Int) (p10 : Int) (p11 : Int) (p12 : Int) (p13 : List S_api_Piece) (p14 : List Int) (p15 : Int) (p16 : Int) (p17 : List (Int × (List Int))) : Option (Bool × (List (Int × (List Int))) × List S_api_Piece × List Int) :=
  ((run_runner_into p2 0 p3 p4 p5 p6 p7 p8 p9 p10 p11 p12 p13 p14 p15 p16 p17).bind fun (x5 : Int × (List (Int × (List Int))) × List S_api_Piece × List Int) => (ifb (decide (x5.1 > (w64 (p15 - p1)))) (some (false, x5.2.1, x5.2.2.1, x5.2.2.2)) ((forX (run_runner_may_b1 p0 p1 p2 p3 p4 p5 p6 p7 p8 p9 p10 p11 p12 p15 p16) x5.2.2.1 (x5.2.1, x5.2.2.1, x5.2.2.2)).bind fun c17 => Ctl.on c17 (fun s8 => (some (true, s8.1, s8.2.1, s8.2.2))) (fun r16 => (some r16)))))
def run_runner_second_b1 (p0 : S_api_State) (p1 : ByteArray) (p2 : Int) (p3 : Int) (p4 : Int) (p5 : Int) (p6 : Int) (p7 : Int) (p8 : Int) (p9 : Int) (p10 : Int) (p13 : Int) (p14 : Int) (x10 : Int × List S_api_Piece × List Int) (s15 : Int × (List (Int × (List Int))) × List S_api_Piece × List Int) : Option (Ctl (Int × (List (Int × (List Int))) × List S_api_Piece × List Int) (Ctl (Int × (List (Int × (List Int))) × List S_api_Piece × List Int) (Empty))) :=
  ((ifb (decide (s15.1 ≥ (gmax 0 (w64 (p0.Speed - (w64 (p8 + x10.1))))))) ((run_gone p0.Speed s15.1).bind fun (x19 : Int) => ((run_runner_may (w64 (p0.At - (w64 (100 * p2)))) (w64 (p0.At + x19)) s15.1 p1 p2 p3 p4 p5 p6 p7 p8 p9 p10 s15.2.2.1 s15.2.2.2 p13 p14 s15.2.1).bind fun (x20 : Bool × (List (Int × (List Int))) × List S_api_Piece × List Int) => (some ((!x20.1), x20.2.1, x20.2.2.1, x20.2.2.2)))) (some (false, s15.2.1, s15.2.2.1, s15.2.2.2))).bind fun (s18 : Bool × (List (Int × (List Int))) × List S_api_Piece × List Int) => (ifb s18.1 (some (.go (w64 (s15.1 - 1), s18.2.1, s18.2.2.1, s18.2.2.2))) (some (.out (.go (s15.1, s18.2.1, s18.2.2.1, s18.2.2.2))))))
def run_runner_second (p0 : S_api_State) (p1 : ByteArray) (p2 : Int) (p3 : Int) (p4 : Int) (p5 : Int) (p6 : Int) (p7 : Int) (p8 : Int) (p9 : Int) (p10 : Int) (p11 : List S_api_Piece) (p12 : List Int) (p13 : Int) (p14 : Int) (p15 : List (Int × (List Int))) : Option (S_api_State × (List (Int × (List Int))) × List S_api_Piece × List Int) :=
  ((run_runner_grade p0.At p1 p2 p3 p4 p5 p6 p7 p8 p9 p10 p11 p12 p13 p14 p15).bind fun (x10 : Int × List S_api_Piece × List Int) => ((run_gain (S_api_Stock.mk p1 p2 p3 p4 p5 p6 p7 p8 p9 p10) p0.Speed x10.1).bind fun (x11 : Int) => ((iter (run_runner_second_b1 p0 p1 p2 p3 p4 p5 p6 p7 p8 p9 p10 p13 p14 x10) (gmin (w64 (p0.Speed + x11)) p14, p15, x10.2.1, x10.2.2)).bind fun c28 => Ctl.on c28 (fun s14 => (((run_gone p0.Speed (gmax s14.1 (gmax 0 (w64 (p0.Speed - (w64 (p8 + x10.1))))))).bind fun (x23 : Int) => (some (w64 (p0.At + x23), gmax s14.1 (gmax 0 (w64 (p0.Speed - (w64 (p8 + x10.1))))), p0.Work))).bind fun (s22 : Int × Int × Int) => (((gquoK .i64 (w64 (p0.Speed * p0.Speed)) p7).bind fun (q26 : Int) => (ifb (decide ((w64 ((w64 ((w64 ((w64 ((gmax s14.1 (gmax 0 (w64 (p0.Speed - (w64 (p8 + x10.1)))))) - p0.Speed)) + p6)) + q26)) + x10.1)) > 0)) (some (w64 (s22.2.2 + (w64 ((w64 (p3 * (w64 ((w64 ((w64 ((w64 ((gmax s14.1 (gmax 0 (w64 (p0.Speed - (w64 (p8 + x10.1)))))) - p0.Speed)) + p6)) + q26)) + x10.1)))) * (w64 (s22.1 - p0.At))))))) (some s22.2.2))).bind fun (s25 : Int) => (some ((S_api_State.mk s22.1 s22.2.1 s25), s14.2.1, s14.2.2.1, s14.2.2.2))))) (fun x_ => x_.elim))))
def run_runner_states_b1 (p1 : ByteArray) (p2 : Int) (p3 : Int) (p4 : Int) (p5 : Int) (p6 : Int) (p7 : Int) (p8 : Int) (p9 : Int) (p10 : Int) (p13 : Int) (p14 : Int) (s7 : Int × (List (Int × (List Int))) × List S_api_Piece × List Int × List S_api_State) : Option (Ctl (Int × (List (Int × (List Int))) × List S_api_Piece × List Int × List S_api_State) (Ctl ((List (Int × (List Int))) × List S_api_Piece × List Int) (Bool × (List (Int × (List Int))) × List S_api_Piece × List Int × List S_api_State))) :=
  (ifb (decide (s7.1 < 3601)) ((idx s7.2.2.2.2 (w64 (((s7.2.2.2.2.length) : Int) - 1))).bind fun (x8 : S_api_State) => ((ifb (x8.Speed == 0) (some (decide ((w64 (p13 - x8.At)) ≤ 100))) (some false)).bind fun (s9 : Bool) => (ifb s9 (some (.out (.out (true, s7.2.1, s7.2.2.1, s7.2.2.2.1, (setI s7.2.2.2.2 (w64 (((s7.2.2.2.2.length) : Int) - 1)) (S_api_State.mk p13 x8.Speed x8.Work)))))) ((run_runner_second x8 p1 p2 p3 p4 p5 p6 p7 p8 p9 p10 s7.2.2.1 s7.2.2.2.1 p13 p14 s7.2.1).bind fun (x10 : S_api_State × (List (Int × (List Int))) × List S_api_Piece × List Int) => ((gapp 24 s7.2.2.2.2 [x10.1]).bind fun (x11 : List S_api_State) => (some (.go (w64 (s7.1 + 1), x10.2.1, x10.2.2.1, x10.2.2.2, x11)))))))) (some (.out (.go (s7.2.1, s7.2.2.1, s7.2.2.2.1)))))
def run_runner_states (p0 : Int) (p1 : ByteArray) (p2 : Int) (p3 : Int) (p4 : Int) (p5 : Int) (p6 : Int) (p7 : Int) (p8 : Int) (p9 : Int) (p10 : Int) (p11 : List S_api_Piece) (p12 : List Int) (p13 : Int) (p14 : Int) (p15 : List (Int × (List Int))) : Option (Bool × (List (Int × (List Int))) × List S_api_Piece × List Int × List S_api_State) :=
  ((iter (run_runner_states_b1 p1 p2 p3 p4 p5 p6 p7 p8 p9 p10 p13 p14) (0, p15, p11, p12, [(S_api_State.mk p0 0 0)])).bind fun c13 => Ctl.on c13 (fun s6 => (some (false, s6.1, s6.2.1, s6.2.2, ([] : List S_api_State)))) (fun r12 => (some r12)))
def run_states (p0 : S_api_Stock) (p1 : List S_api_Piece) (p2 : Int) (p3 : Int) (p4 : Int) : Option (Int × List S_api_State) :=
  ((run_newRunner p0 p1 p3 p4).bind fun (x3 : ByteArray × Int × Int × Int × Int × Int × Int × Int × Int × Int × List S_api_Piece × Int × Int × List Int × (List (Int × (List Int)))) => ((run_runner_states p2 x3.1 x3.2.1 x3.2.2.1 x3.2.2.2.1 x3.2.2.2.2.1 x3.2.2.2.2.2.1 x3.2.2.2.2.2.2.1 x3.2.2.2.2.2.2.2.1 x3.2.2.2.2.2.2.2.2.1 x3.2.2.2.2.2.2.2.2.2.1 x3.2.2.2.2.2.2.2.2.2.2.1 x3.2.2.2.2.2.2.2.2.2.2.2.2.2.1 x3.2.2.2.2.2.2.2.2.2.2.2.1 x3.2.2.2.2.2.2.2.2.2.2.2.2.1 x3.2.2.2.2.2.2.2.2.2.2.2.2.2.2).bind fun (x4 : Bool × (List (Int × (List Int))) × List S_api_Piece × List Int × List S_api_State) => (ifb (!x4.1) (some (4, ([] : List S_api_State))) (some (0, x4.2.2.2.2)))))
def run_Saving_b1 (p0 : S_api_Stock) (p1 : List S_api_Piece) (p2 : Int) (p3 : Int) (p4 : Int) (s11 : Int) : Option (Ctl (Int) (Ctl (Unit) (Int × Int))) :=
  (ifb (decide (s11 < 111)) ((run_states p0 p1 p2 p3 (gmin p0.Top (w64 (500 + (w64 (50 * s11)))))).bind fun (x12 : Int × List S_api_State) => ((ifb (x12.1 == 0) (some (decide ((w64 (((x12.2.length) : Int) - 1)) ≤ p4))) (some false)).bind fun (s13 : Bool) => (ifb s13 (some (.out (.out (w64 (500 + (w64 (50 * s11))), 0)))) (ifb (decide ((w64 (500 + (w64 (50 * s11)))) ≥ p0.Top)) (some (.out (.go ()))) (some (.go (w64 (s11 + 1)))))))) (some (.out (.go ()))))
def run_Saving (p0 : S_api_Stock) (p1 : List S_api_Piece) (p2 : Int) (p3 : Int) (p4 : Int) : Option (Int × Int) :=
  ((run_check p0 p1 (S_api_State.mk p2 0 0) p3).bind fun (x6 : Int) => (ifb (x6 != 0) (some (0, x6)) ((run_within p4 0 3600).bind fun (x7 : Bool) => (ifb (!x7) (some (0, 2)) ((iter (run_Saving_b1 p0 p1 p2 p3 p4) 0).bind fun c15 => Ctl.on c15 (fun s10 => (some (0, 9))) (fun r14 => (some r14)))))))
def run_Capped (p0 : S_api_Stock) (p1 : List S_api_Piece) (p2 : Int) (p3 : Int) (p4 : Int) : Option (Int × List S_api_State) :=
  ((run_check p0 p1 (S_api_State.mk p2 0 0) p3).bind fun (x4 : Int) => (ifb (x4 != 0) (some (x4, ([] : List S_api_State))) ((run_within p4 500 6000).bind fun (x5 : Bool) => (ifb (!x5) (some (2, ([] : List S_api_State))) ((run_states p0 p1 p2 p3 (gmin p0.Top p4)).bind fun (x6 : Int × List S_api_State) => (some (x6.1, x6.2)))))))
def fishkeep1_RunSaved_b1 (x11 : Int × Int) (i14 : Nat) (x18 : S_api_State) (s17 : Unit) : Option (Ctl (Unit) (Ctl (Unit) (Bool))) :=
  (ifb (decide (x18.Speed > x11.1)) (some (.out (.out false))) (some (.go ())))
def fishkeep1_RunSaved (p0 : S_api_Stock) (p1 : List S_api_Piece) (p2 : Int) (p3 : Int) (p4 : Int) : Option (Bool) :=
  ((fishkeep1_awakeRun).bind fun (x10 : Unit) => ((run_Saving p0 p1 p2 p3 p4).bind fun (x11 : Int × Int) => (ifb (x11.2 != 0) (some (x11.1 == 0)) ((run_Capped p0 p1 p2 p3 x11.1).bind fun (x12 : Int × List S_api_State) => ((ifb (x12.1 != 0) (some true) (some (decide ((w64 (((x12.2.length) : Int) - 1)) > p4)))).bind fun (s13 : Bool) => (ifb s13 (some false) ((forX (fishkeep1_RunSaved_b1 x11) x12.2 ()).bind fun c22 => Ctl.on c22 (fun s16 => (ifb (x11.1 == 500) (some true) ((run_Capped p0 p1 p2 p3 (w64 (x11.1 - 50))).bind fun (x19 : Int × List S_api_State) => ((ifb (x19.1 == 4) (some true) (ifb (x19.1 == 0) (some (decide ((w64 (((x19.2.length) : Int) - 1)) > p4))) (some false))).bind fun (s20 : Bool) => (some s20))))) (fun r21 => (some r21)))))))))
def run_Go (p0 : S_api_Stock) (p1 : List S_api_Piece) (p2 : Int) (p3 : Int) : Option (Int × List S_api_State) :=
  ((run_check p0 p1 (S_api_State.mk p2 0 0) p3).bind fun (x3 : Int) => (ifb (x3 != 0) (some (x3, ([] : List S_api_State))) ((run_states p0 p1 p2 p3 p0.Top).bind fun (x4 : Int × List S_api_State) => (some (x4.1, x4.2)))))
def run_Gain (p0 : S_api_Stock) (p1 : Int) (p2 : Int) : Option (Int × Int) :=
  ((run_Check p0).bind fun (x6 : Int) => (ifb (x6 != 0) (some (0, x6)) (((run_within p1 0 6000).bind fun (x10 : Bool) => (ifb (!x10) (some true) ((run_within p2 (-40) 40).bind fun (x11 : Bool) => (some (!x11))))).bind fun (s9 : Bool) => (ifb s9 (some (0, 2)) ((run_gain p0 p1 p2).bind fun (x12 : Int) => (some (x12, 0)))))))
def fishkeep1_secondKeeps_b1 (p0 : S_api_Stock) (p2 : S_api_State) (p3 : S_api_State) (q8 : Int) (i10 : Nat) (x14 : S_api_Piece) (s13 : Int × Int) : Option (Ctl (Int × Int) (Ctl (Int × Int) (Bool))) :=
  ((ifb (decide (s13.2 ≤ p2.At)) (some x14.Grade) (some s13.1)).bind fun (s15 : Int) => ((ifb (decide (s13.2 < (w64 (p2.At + q8)))) (ifb (decide ((w64 (s13.2 + x14.Length)) > (w64 (p2.At - (w64 (100 * p0.Length)))))) (some (decide (p3.Speed > x14.Speed))) (some false)) (some false)).bind fun (s16 : Bool) => (ifb s16 (some (.out (.out false))) (some (.go (s15, w64 (s13.2 + x14.Length)))))))
def fishkeep1_secondKeeps (p0 : S_api_Stock) (p1 : List S_api_Piece) (p2 : S_api_State) (p3 : S_api_State) (p4 : Int) (p5 : Bool) : Option (Bool) :=
  ((gquoK .i64 (w64 ((w64 (p2.Speed + p3.Speed)) + 1)) 2).bind fun (q8 : Int) => ((ifb (p3.At != (w64 (p2.At + q8))) (ifb p5 (ifb (decide ((w64 (p2.At + q8)) ≤ p4)) (ifb (!(decide ((w64 (p4 - (w64 (p2.At + q8)))) ≤ 100))) (some true) (ifb (decide (p3.Speed > p0.Top)) (some true) (some (decide (p3.At > p4))))) (some true)) (some true)) (ifb (decide (p3.Speed > p0.Top)) (some true) (some (decide (p3.At > p4))))).bind fun (s9 : Bool) => (ifb s9 (some false) ((forX (fishkeep1_secondKeeps_b1 p0 p2 p3 q8) p1 (0, 0)).bind fun c20 => Ctl.on c20 (fun s12 => ((run_Gain p0 p2.Speed s12.1).bind fun (x17 : Int × Int) => ((ifb (x17.2 == 0) (ifb (decide (p3.Speed ≤ (gmax (w64 (p2.Speed + x17.1)) (gmax (w64 ((w64 (p2.Speed - p0.Brake)) - s12.1)) 0)))) (ifb (decide (p3.Speed ≥ (gmax (w64 ((w64 (p2.Speed - p0.Brake)) - s12.1)) 0))) (some (decide (p3.Work ≥ p2.Work))) (some false)) (some false)) (some false)).bind fun (s18 : Bool) => (some s18)))) (fun r19 => (some r19))))))
def fishkeep1_RunKeeps_b1 (p0 : S_api_Stock) (p1 : List S_api_Piece) (p3 : Int) (x13 : Int × List S_api_State) (s28 : Int) : Option (Ctl (Int) (Ctl (Unit) (Bool))) :=
  (ifb (decide (s28 ≤ (w64 (((x13.2.length) : Int) - 1)))) ((idx x13.2 (w64 (s28 - 1))).bind fun (x29 : S_api_State) => ((idx x13.2 s28).bind fun (x30 : S_api_State) => ((fishkeep1_secondKeeps p0 p1 x29 x30 p3 (s28 == (w64 (((x13.2.length) : Int) - 1)))).bind fun (x31 : Bool) => (ifb (!x31) (some (.out (.out false))) (some (.go (w64 (s28 + 1)))))))) (some (.out (.go ()))))
def fishkeep1_RunKeeps (p0 : S_api_Stock) (p1 : List S_api_Piece) (p2 : Int) (p3 : Int) : Option (Bool) :=
  ((fishkeep1_awakeRun).bind fun (x12 : Unit) => ((run_Go p0 p1 p2 p3).bind fun (x13 : Int × List S_api_State) => (ifb (x13.1 != 0) (some (((x13.2.length) : Int) == 0)) ((ifb (decide ((w64 (((x13.2.length) : Int) - 1)) < 0)) (some true) (ifb (decide ((w64 (((x13.2.length) : Int) - 1)) > 3600)) (some true) ((idx x13.2 (0 : Int)).bind fun (x20 : S_api_State) => (ifb (x20.Speed != 0) (some true) ((idx x13.2 (0 : Int)).bind fun (x21 : S_api_State) => (ifb (x21.Work != 0) (some true) ((idx x13.2 (w64 (((x13.2.length) : Int) - 1))).bind fun (x22 : S_api_State) => (ifb (x22.Speed != 0) (some true) ((idx x13.2 (w64 (((x13.2.length) : Int) - 1))).bind fun (x23 : S_api_State) => (ifb (x23.At != p3) (some true) (ifb (decide ((w64 (((x13.2.length) : Int) - 1)) > 0)) ((idx x13.2 (0 : Int)).bind fun (x24 : S_api_State) => (some (x24.At != p2))) (some false)))))))))))).bind fun (s19 : Bool) => (ifb s19 (some false) ((iter (fishkeep1_RunKeeps_b1 p0 p1 p3 x13) 1).bind fun c33 => Ctl.on c33 (fun s27 => (some true)) (fun r32 => (some r32))))))))
end Hd
