/- Functions of the program as plain functions. Printed by a tool. -/
import Derived.Test.YtgflagiblnkchaaDoorG1
set_option linter.unusedVariables false
set_option linter.unusedSimpArgs false
set_option maxRecDepth 100000
set_option maxHeartbeats 4000000
namespace Hd
open Go Hk
structure S_api_Stock where
  Name : ByteArray
  Length : Int
  Mass : Int
  Start : Int
  Power : Int
  Roll : Int
  Drag : Int
  Brake : Int
  Top : Int
  Seats : Int
structure S_api_Piece where
  Length : Int
  Grade : Int
  Speed : Int
structure S_api_State where
  At : Int
  Speed : Int
  Work : Int
structure S_guard_Packet where
  Kind : Int
  Session : Int
  No : Int
  Of : Int
  End : Int
  At : Int
  Speed : Int
  Sent : Int
structure S_147 where
  e0 : Int
  e1 : Int
  e2 : Int
  e3 : Int
  e4 : Int
  e5 : Int
  e6 : Int
  e7 : Int
  e8 : Int
structure S_fishkeep1_Ride where
  Demand : Int
  Err : Int
  End : Int
def strings_Split (p0 : ByteArray) : Option (List ByteArray) := ssplit 32 p0
def line_Number (p0 : ByteArray) : Option (Int × Bool) := numE p0
def line_Numbers_b1 (i4 : Nat) (x8 : ByteArray) (s7 : List Int) : Option (Ctl (List Int) (Ctl (List Int) (Bool × List Int))) :=
  ((line_Number x8).bind fun (x9 : Int × Bool) => (ifb (!x9.2) (some (.out (.out (false, ([] : List Int))))) ((gapp 8 s7 [x9.1]).bind fun (x10 : List Int) => (some (.go x10)))))
def line_Numbers (p0 : List ByteArray) : Option (Bool × List Int) :=
  ((forX line_Numbers_b1 p0 ([] : List Int)).bind fun c12 => Ctl.on c12 (fun s6 => (some (true, s6))) (fun r11 => (some r11)))
def guard_within (p0 : Int) (p1 : Int) (p2 : Int) : Option (Bool) :=
  ((ifb (decide (p0 ≥ p1)) (some (decide (p0 ≤ p2))) (some false)).bind fun (s2 : Bool) => (some s2))
def guard_Packet_used (p0 : S_guard_Packet) : Option (S_guard_Packet) :=
  ((ifb (p0.Kind == 1) (some (0, 0, p0.At, 0)) (ifb (p0.Kind == 3) (some (0, p0.End, p0.At, p0.Speed)) ((ifb (p0.Kind == 4) (some (p0.Kind == 4)) (some (p0.Kind == 5))).bind fun (s5 : Bool) => (ifb s5 (some (0, p0.End, 0, 0)) (ifb (p0.Kind == 7) (some (p0.Of, p0.End, 0, 0)) (ifb (p0.Kind == 8) (some (p0.Of, 0, 0, 0)) (some (0, 0, 0, 0)))))))).bind fun (s4 : Int × Int × Int × Int) => (some (S_guard_Packet.mk p0.Kind p0.Session p0.No s4.1 s4.2.1 s4.2.2.1 s4.2.2.2 p0.Sent)))
def guard_Packet_check (p0 : S_guard_Packet) : Option (Int) :=
  ((guard_within p0.Kind 1 8).bind fun (x12 : Bool) => (ifb (!x12) (some 15) (((guard_within p0.Session 1 1000000).bind fun (x21 : Bool) => (ifb (!x21) (some true) ((guard_within p0.No 1 1000000).bind fun (x22 : Bool) => (ifb (!x22) (some true) ((guard_within p0.Of 0 1000000).bind fun (x23 : Bool) => (ifb (!x23) (some true) ((guard_within p0.End 0 20000000).bind fun (x24 : Bool) => (ifb (!x24) (some true) ((guard_within p0.At 0 20000000).bind fun (x25 : Bool) => (ifb (!x25) (some true) ((guard_within p0.Speed 0 6000).bind fun (x26 : Bool) => (ifb (!x26) (some true) ((guard_within p0.Sent 0 28800).bind fun (x27 : Bool) => (some (!x27))))))))))))))).bind fun (s20 : Bool) => (ifb s20 (some 2) (((guard_Packet_used p0).bind fun (x30 : S_guard_Packet) => (ifb (!(ieq p0.Kind x30.Kind && (ieq p0.Session x30.Session && (ieq p0.No x30.No && (ieq p0.Of x30.Of && (ieq p0.End x30.End && (ieq p0.At x30.At && (ieq p0.Speed x30.Speed && (ieq p0.Sent x30.Sent && true))))))))) (some true) (ifb (p0.Of == 0) (some (decide (p0.Kind ≥ 7))) (some false)))).bind fun (s29 : Bool) => (ifb s29 (some 1) (some 0)))))))
def guard_Unpack : Option (Int × S_guard_Packet) :=
  ((strings_Split (⟨#[]⟩ : ByteArray)).bind fun (x13 : List ByteArray) => ((line_Numbers x13).bind fun (x14 : Bool × List Int) => ((ifb (!x14.1) (some true) (some (((x14.2.length) : Int) != 8))).bind fun (s15 : Bool) => (ifb s15 (some (10, (S_guard_Packet.mk 0 0 0 0 0 0 0 0))) ((idx x14.2 (0 : Int)).bind fun (x16 : Int) => ((idx x14.2 (1 : Int)).bind fun (x17 : Int) => ((idx x14.2 (2 : Int)).bind fun (x18 : Int) => ((idx x14.2 (3 : Int)).bind fun (x19 : Int) => ((idx x14.2 (4 : Int)).bind fun (x20 : Int) => ((idx x14.2 (5 : Int)).bind fun (x21 : Int) => ((idx x14.2 (6 : Int)).bind fun (x22 : Int) => ((idx x14.2 (7 : Int)).bind fun (x23 : Int) => ((guard_Packet_check (S_guard_Packet.mk x16 x17 x18 x19 x20 x21 x22 x23)).bind fun (x24 : Int) => (ifb (x24 != 0) (some (x24, (S_guard_Packet.mk 0 0 0 0 0 0 0 0))) (some (0, (S_guard_Packet.mk x16 x17 x18 x19 x20 x21 x22 x23)))))))))))))))))
def fishkeep1_awakeGuard : Option (Bool) :=
  ((guard_Unpack).bind fun (x2 : Int × S_guard_Packet) => (some (x2.1 != 0)))
def run_name_b1 (i7 : Nat) (x11 : Int) (s10 : Unit) : Option (Ctl (Unit) (Ctl (Unit) (Bool))) :=
  ((ifb (decide (x11 < 97)) (some true) (some (decide (x11 > 122)))).bind fun (s12 : Bool) => (ifb s12 (some (.out (.out false))) (some (.go ()))))
def run_name (p0 : ByteArray) : Option (Bool) :=
  ((sbytes p0).bind fun (x6 : List Int) => ((forX run_name_b1 x6 ()).bind fun c15 => Ctl.on c15 (fun s9 => ((ifb (decide ((p0.size : Int) ≥ 1)) (some (decide ((p0.size : Int) ≤ 12))) (some false)).bind fun (s13 : Bool) => (some s13))) (fun r14 => (some r14))))
def run_numbers (p0 : S_api_Stock) : Option (Int × Int × Int × Int × Int × Int × Int × Int × Int) :=
  (some (p0.Length, p0.Mass, p0.Start, p0.Power, p0.Roll, p0.Drag, p0.Brake, p0.Top, p0.Seats))
def run_within (p0 : Int) (p1 : Int) (p2 : Int) : Option (Bool) :=
  ((ifb (decide (p0 ≥ p1)) (some (decide (p0 ≤ p2))) (some false)).bind fun (s2 : Bool) => (some s2))
def run_Check_b1 (x9 : Int × Int × Int × Int × Int × Int × Int × Int × Int) (s13 : Int) : Option (Ctl (Int) (Ctl (Unit) (Int))) :=
  (ifb (decide (s13 < 9)) ((idx [x9.1, x9.2.1, x9.2.2.1, x9.2.2.2.1, x9.2.2.2.2.1, x9.2.2.2.2.2.1, x9.2.2.2.2.2.2.1, x9.2.2.2.2.2.2.2.1, x9.2.2.2.2.2.2.2.2] s13).bind fun (x14 : Int) => ((gix 9 s13).bind fun (x15 : Unit) => ((gix 2 0).bind fun (x16 : Unit) => ((idx [10, 400, 10, 2000, 60, 150, 10000, 2000000, 0, 10, 1000000, 100000000, 60, 150, 500, 6000, 0, 1000] ((0 + s13 * 2) + 0 * 1)).bind fun (x17 : Int) => ((gix 9 s13).bind fun (x18 : Unit) => ((gix 2 1).bind fun (x19 : Unit) => ((idx [10, 400, 10, 2000, 60, 150, 10000, 2000000, 0, 10, 1000000, 100000000, 60, 150, 500, 6000, 0, 1000] ((0 + s13 * 2) + 1 * 1)).bind fun (x20 : Int) => ((run_within x14 x17 x20).bind fun (x21 : Bool) => (ifb (!x21) (some (.out (.out 2))) (some (.go (w64 (s13 + 1))))))))))))) (some (.out (.go ()))))
def run_Check (p0 : S_api_Stock) : Option (Int) :=
  ((run_name p0.Name).bind fun (x7 : Bool) => (ifb (!x7) (some 1) ((glen (List.replicate 18 (0 : Int)) 18).bind fun (x8 : Unit) => ((run_numbers p0).bind fun (x9 : Int × Int × Int × Int × Int × Int × Int × Int × Int) => ((iter (run_Check_b1 x9) 0).bind fun c23 => Ctl.on c23 (fun s12 => (some 0)) (fun r22 => (some r22)))))))
def run_check_b1 (i11 : Nat) (x15 : S_api_Piece) (s14 : Int) : Option (Ctl (Int) (Ctl (Int) (Int))) :=
  (((run_within x15.Length 1 300000).bind fun (x20 : Bool) => (ifb (!x20) (some true) ((run_within x15.Grade (-40) 40).bind fun (x21 : Bool) => (ifb (!x21) (some true) ((run_within x15.Speed 1 6000).bind fun (x22 : Bool) => (some (!x22))))))).bind fun (s19 : Bool) => (ifb s19 (some (.out (.out 2))) (some (.go (w64 (s14 + x15.Length))))))
def run_check (p0 : S_api_Stock) (p1 : List S_api_Piece) (p2 : S_api_State) (p3 : Int) : Option (Int) :=
  ((run_Check p0).bind fun (x10 : Int) => (ifb (x10 != 0) (some x10) (ifb (((p1.length) : Int) == 0) (some 1) (ifb (decide (((p1.length) : Int) > 60)) (some 4) ((forX run_check_b1 p1 0).bind fun c33 => Ctl.on c33 (fun s13 => (((run_within p3 0 s13).bind fun (x28 : Bool) => (ifb (!x28) (some true) ((run_within p2.At 0 p3).bind fun (x29 : Bool) => (ifb (!x29) (some true) ((run_within p2.Speed 0 p0.Top).bind fun (x30 : Bool) => (ifb (!x30) (some true) ((run_within p2.Work 0 1152921504606846976).bind fun (x31 : Bool) => (some (!x31))))))))).bind fun (s27 : Bool) => (ifb s27 (some 2) (some 0)))) (fun r32 => (some r32)))))))
def run_newRunner_b1 (i4 : Nat) (x8 : S_api_Piece) (s7 : List Int) : Option (Ctl (List Int) (Ctl (List Int) (Empty))) :=
  ((idx s7 (i4 : Int)).bind fun (x9 : Int) => ((gapp 8 s7 [w64 (x9 + x8.Length)]).bind fun (x10 : List Int) => (some (.go x10))))
def run_newRunner (p0 : S_api_Stock) (p1 : List S_api_Piece) (p2 : Int) (p3 : Int) : Option (ByteArray × Int × Int × Int × Int × Int × Int × Int × Int × Int × List S_api_Piece × Int × Int × List Int × (List (Int × (List Int)))) :=
  ((forX run_newRunner_b1 p1 [0]).bind fun c12 => Ctl.on c12 (fun s6 => (some (p0.Name, p0.Length, p0.Mass, p0.Start, p0.Power, p0.Roll, p0.Drag, p0.Brake, p0.Top, p0.Seats, p1, p2, p3, s6, ([] : List (Int × (List Int)))))) (fun x_ => x_.elim))
def run_runner_grade_b1 (p0 : Int) (p11 : List S_api_Piece) (p12 : List Int) (s8 : Int) : Option (Ctl (Int) (Ctl (Int) (Empty))) :=
  ((ifb (decide ((w64 (s8 + 1)) < ((p11.length) : Int))) ((idx p12 (w64 (s8 + 1))).bind fun (x11 : Int) => (some (decide (x11 ≤ p0)))) (some false)).bind fun (s10 : Bool) => (ifb s10 (some (.go (w64 (s8 + 1)))) (some (.out (.go s8)))))
def run_runner_grade (p0 : Int) (p1 : ByteArray) (p2 : Int) (p3 : Int) (p4 : Int) (p5 : Int) (p6 : Int) (p7 : Int) (p8 : Int) (p9 : Int) (p10 : Int) (p11 : List S_api_Piece) (p12 : List Int) (p13 : Int) (p14 : Int) (p15 : List (Int × (List Int))) : Option (Int × List S_api_Piece × List Int) :=
  ((iter (run_runner_grade_b1 p0 p11 p12) 0).bind fun c14 => Ctl.on c14 (fun s7 => ((idx p11 s7).bind fun (x12 : S_api_Piece) => (some (x12.Grade, p11, p12)))) (fun x_ => x_.elim))
def run_pull (p0 : S_api_Stock) (p1 : Int) : Option (Int) :=
  (ifb (p1 == 0) (some p0.Start) ((gquoK .i64 p0.Power p1).bind fun (q2 : Int) => (some (gmin p0.Start q2))))
def run_gain (p0 : S_api_Stock) (p1 : Int) (p2 : Int) : Option (Int) :=
  ((run_pull p0 p1).bind fun (x3 : Int) => ((gquoK .i64 (w64 (p1 * p1)) p0.Drag).bind fun (q4 : Int) => (some (w64 ((w64 ((w64 (x3 - p0.Roll)) - q4)) - p2)))))
def run_gone (p0 : Int) (p1 : Int) : Option (Int) :=
  ((gquoK .i64 (w64 ((w64 (p0 + p1)) + 1)) 2).bind fun (q2 : Int) => (some q2))
def run_runner_into_b1 (p0 : Int) (p1 : Int) (p9 : Int) (s9 : Int × List Int) : Option (Ctl (Int × List Int) (Ctl (List Int) (Empty))) :=
  (ifb (decide (s9.1 ≤ p0)) ((ifb (decide (s9.1 > p1)) ((run_gone s9.1 (gmax p1 (w64 (s9.1 - (w64 (p9 - 40)))))).bind fun (x13 : Int) => ((idx s9.2 (gmax p1 (w64 (s9.1 - (w64 (p9 - 40)))))).bind fun (x14 : Int) => (some (w64 (x13 + x14))))) (some 0)).bind fun (s12 : Int) => ((gapp 8 s9.2 [s12]).bind fun (x15 : List Int) => (some (.go (w64 (s9.1 + 1), x15))))) (some (.out (.go s9.2))))
def run_runner_into (p0 : Int) (p1 : Int) (p2 : ByteArray) (p3 : Int) (p4 : Int) (p5 : Int) (p6 : Int) (p7 : Int) (p8 : Int) (p9 : Int) (p10 : Int) (p11 : Int) (p12 : List S_api_Piece) (p13 : List Int) (p14 : Int) (p15 : Int) (p16 : List (Int × (List Int))) : Option (Int × (List (Int × (List Int))) × List S_api_Piece × List Int) :=
  (ifb (decide (p0 ≤ p1)) (some (0, p16, p12, p13)) ((iter (run_runner_into_b1 p0 p1 p9) (((((mfind ieq p1 p16).getD []).length) : Int), ((mfind ieq p1 p16).getD []))).bind fun c19 => Ctl.on c19 (fun s8 => ((keyIs ieq p1 p1).bind fun (x16 : Unit) => ((idx s8 p0).bind fun (x17 : Int) => (some (x17, (mset ieq p1 s8 (mset ieq p1 s8 p16)), p12, p13))))) (fun x_ => x_.elim)))
def run_runner_may_b1 (p0 : Int) (p1 : Int) (p2 : Int) (p3 : ByteArray) (p4 : Int) (p5 : Int) (p6 : Int) (p7 : Int) (p8 : Int) (p9 : Int) (p10 : Int) (p11 : Int) (p12 : Int) (p15 : Int) (p16 : Int) (i6 : Nat) (x10 : S_api_Piece) (s9 : (List (Int × (List Int))) × List S_api_Piece × List Int) : Option (Ctl ((List (Int × (List Int))) × List S_api_Piece × List Int) (Ctl ((List (Int × (List Int))) × List S_api_Piece × List Int) (Bool × (List (Int × (List Int))) × List S_api_Piece × List Int))) :=
  ((idx s9.2.2 (i6 : Int)).bind fun (x11 : Int) => (ifb (decide (x11 ≥ p1)) ((run_runner_into p2 x10.Speed p3 p4 p5 p6 p7 p8 p9 p10 p11 p12 s9.2.1 s9.2.2 p15 p16 s9.1).bind fun (x12 : Int × (List (Int × (List Int))) × List S_api_Piece × List Int) => (ifb (decide (x12.1 > (w64 (x11 - p1)))) (some (.out (.out (false, x12.2.1, x12.2.2.1, x12.2.2.2)))) (some (.go (x12.2.1, x12.2.2.1, x12.2.2.2))))) (((idx s9.2.2 (w64 ((i6 : Int) + 1))).bind fun (x15 : Int) => (ifb (decide (x15 > p0)) (some (decide (p2 > x10.Speed))) (some false))).bind fun (s14 : Bool) => (ifb s14 (some (.out (.out (false, s9.1, s9.2.1, s9.2.2)))) (some (.go (s9.1, s9.2.1, s9.2.2)))))))
def run_runner_may (p0 : Int) (p1 : Int) (p2 : Int) (p3 : ByteArray) (p4 : Int) (p5 : Int) (p6 : Int) (p7 : Int) (p8 : Int) (p9 : Int) (p10 : Int) (p11 : Int) (p12 : Int) (p13 : List S_api_Piece) (p14 : List Int) (p15 : Int) (p16 : Int) (p17 : List (Int × (List Int))) : Option (Bool × (List (Int × (List Int))) × List S_api_Piece × List Int) :=
  ((run_runner_into p2 0 p3 p4 p5 p6 p7 p8 p9 p10 p11 p12 p13 p14 p15 p16 p17).bind fun (x5 : Int × (List (Int × (List Int))) × List S_api_Piece × List Int) => (ifb (decide (x5.1 > (w64 (p15 - p1)))) (some (false, x5.2.1, x5.2.2.1, x5.2.2.2)) ((forX (run_runner_may_b1 p0 p1 p2 p3 p4 p5 p6 p7 p8 p9 p10 p11 p12 p15 p16) x5.2.2.1 (x5.2.1, x5.2.2.1, x5.2.2.2)).bind fun c17 => Ctl.on c17 (fun s8 => (some (true, s8.1, s8.2.1, s8.2.2))) (fun r16 => (some r16)))))
def run_runner_second_b1 (p0 : S_api_State) (p1 : ByteArray) (p2 : Int) (p3 : Int) (p4 : Int) (p5 : Int) (p6 : Int) (p7 : Int) (p8 : Int) (p9 : Int) (p10 : Int) (p13 : Int) (p14 : Int) (x10 : Int × List S_api_Piece × List Int) (s15 : Int × (List (Int × (List Int))) × List S_api_Piece × List Int) : Option (Ctl (Int × (List (Int × (List Int))) × List S_api_Piece × List Int) (Ctl (Int × (List (Int × (List Int))) × List S_api_Piece × List Int) (Empty))) :=
  ((ifb (decide (s15.1 ≥ (gmax 0 (w64 (p0.Speed - (w64 (p8 + x10.1))))))) ((run_gone p0.Speed s15.1).bind fun (x19 : Int) => ((run_runner_may (w64 (p0.At - (w64 (100 * p2)))) (w64 (p0.At + x19)) s15.1 p1 p2 p3 p4 p5 p6 p7 p8 p9 p10 s15.2.2.1 s15.2.2.2 p13 p14 s15.2.1).bind fun (x20 : Bool × (List (Int × (List Int))) × List S_api_Piece × List Int) => (some ((!x20.1), x20.2.1, x20.2.2.1, x20.2.2.2)))) (some (false, s15.2.1, s15.2.2.1, s15.2.2.2))).bind fun (s18 : Bool × (List (Int × (List Int))) × List S_api_Piece × List Int) => (ifb s18.1 (some (.go (w64 (s15.1 - 1), s18.2.1, s18.2.2.1, s18.2.2.2))) (some (.out (.go (s15.1, s18.2.1, s18.2.2.1, s18.2.2.2))))))
def run_runner_second (p0 : S_api_State) (p1 : ByteArray) (p2 : Int) (p3 : Int) (p4 : Int) (p5 : Int) (p6 : Int) (p7 : Int) (p8 : Int) (p9 : Int) (p10 : Int) (p11 : List S_api_Piece) (p12 : List Int) (p13 : Int) (p14 : Int) (p15 : List (Int × (List Int))) : Option (S_api_State × (List (Int × (List Int))) × List S_api_Piece × List Int) :=
  ((run_runner_grade p0.At p1 p2 p3 p4 p5 p6 p7 p8 p9 p10 p11 p12 p13 p14 p15).bind fun (x10 : Int × List S_api_Piece × List Int) => ((run_gain (S_api_Stock.mk p1 p2 p3 p4 p5 p6 p7 p8 p9 p10) p0.Speed x10.1).bind fun (x11 : Int) => ((iter (run_runner_second_b1 p0 p1 p2 p3 p4 p5 p6 p7 p8 p9 p10 p13 p14 x10) (gmin (w64 (p0.Speed + x11)) p14, p15, x10.2.1, x10.2.2)).bind fun c28 => Ctl.on c28 (fun s14 => (((run_gone p0.Speed (gmax s14.1 (gmax 0 (w64 (p0.Speed - (w64 (p8 + x10.1))))))).bind fun (x23 : Int) => (some (w64 (p0.At + x23), gmax s14.1 (gmax 0 (w64 (p0.Speed - (w64 (p8 + x10.1))))), p0.Work))).bind fun (s22 : Int × Int × Int) => (((gquoK .i64 (w64 (p0.Speed * p0.Speed)) p7).bind fun (q26 : Int) => (ifb (decide ((w64 ((w64 ((w64 ((w64 ((gmax s14.1 (gmax 0 (w64 (p0.Speed - (w64 (p8 + x10.1)))))) - p0.Speed)) + p6)) + q26)) + x10.1)) > 0)) (some (w64 (s22.2.2 + (w64 ((w64 (p3 * (w64 ((w64 ((w64 ((w64 ((gmax s14.1 (gmax 0 (w64 (p0.Speed - (w64 (p8 + x10.1)))))) - p0.Speed)) + p6)) + q26)) + x10.1)))) * (w64 (s22.1 - p0.At))))))) (some s22.2.2))).bind fun (s25 : Int) => (some ((S_api_State.mk s22.1 s22.2.1 s25), s14.2.1, s14.2.2.1, s14.2.2.2))))) (fun x_ => x_.elim))))
def run_Second (p0 : S_api_Stock) (p1 : List S_api_Piece) (p2 : S_api_State) (p3 : Int) : Option (Int × S_api_State) :=
  ((run_check p0 p1 p2 p3).bind fun (x4 : Int) => (ifb (x4 != 0) (some (x4, (S_api_State.mk 0 0 0))) ((run_newRunner p0 p1 p3 p0.Top).bind fun (x5 : ByteArray × Int × Int × Int × Int × Int × Int × Int × Int × Int × List S_api_Piece × Int × Int × List Int × (List (Int × (List Int)))) => ((run_runner_second p2 x5.1 x5.2.1 x5.2.2.1 x5.2.2.2.1 x5.2.2.2.2.1 x5.2.2.2.2.2.1 x5.2.2.2.2.2.2.1 x5.2.2.2.2.2.2.2.1 x5.2.2.2.2.2.2.2.2.1 x5.2.2.2.2.2.2.2.2.2.1 x5.2.2.2.2.2.2.2.2.2.2.1 x5.2.2.2.2.2.2.2.2.2.2.2.2.2.1 x5.2.2.2.2.2.2.2.2.2.2.2.1 x5.2.2.2.2.2.2.2.2.2.2.2.2.1 x5.2.2.2.2.2.2.2.2.2.2.2.2.2.2).bind fun (x6 : S_api_State × (List (Int × (List Int))) × List S_api_Piece × List Int) => (some (0, x6.1))))))
def guard_rule_into_b1 (p0 : Int) (p1 : Int) (p9 : Int) (s9 : Int × List Int) : Option (Ctl (Int × List Int) (Ctl (List Int) (Empty))) :=
  (ifb (decide (s9.1 ≤ p0)) ((ifb (decide (s9.1 > p1)) ((gquoK .i64 (w64 ((w64 (s9.1 + (gmax p1 (w64 (s9.1 - (w64 (p9 - 40))))))) + 1)) 2).bind fun (q13 : Int) => ((idx s9.2 (gmax p1 (w64 (s9.1 - (w64 (p9 - 40)))))).bind fun (x14 : Int) => (some (w64 (q13 + x14))))) (some 0)).bind fun (s12 : Int) => ((gapp 8 s9.2 [s12]).bind fun (x15 : List Int) => (some (.go (w64 (s9.1 + 1), x15))))) (some (.out (.go s9.2))))
def guard_rule_into (p0 : Int) (p1 : Int) (p2 : ByteArray) (p3 : Int) (p4 : Int) (p5 : Int) (p6 : Int) (p7 : Int) (p8 : Int) (p9 : Int) (p10 : Int) (p11 : Int) (p12 : List S_api_Piece) (p13 : List (Int × (List Int))) : Option (Int × (List (Int × (List Int))) × List S_api_Piece) :=
  (ifb (decide (p0 ≤ p1)) (some (0, p13, p12)) ((iter (guard_rule_into_b1 p0 p1 p9) (((((mfind ieq p1 p13).getD []).length) : Int), ((mfind ieq p1 p13).getD []))).bind fun c19 => Ctl.on c19 (fun s8 => ((keyIs ieq p1 p1).bind fun (x16 : Unit) => ((idx s8 p0).bind fun (x17 : Int) => (some (x17, (mset ieq p1 s8 (mset ieq p1 s8 p13)), p12))))) (fun x_ => x_.elim)))
def guard_rule_may_b1 (p0 : Int) (p1 : Int) (p3 : Int) (p4 : ByteArray) (p5 : Int) (p6 : Int) (p7 : Int) (p8 : Int) (p9 : Int) (p10 : Int) (p11 : Int) (p12 : Int) (p13 : Int) (i6 : Nat) (x10 : S_api_Piece) (s9 : Int × (List (Int × (List Int))) × List S_api_Piece) : Option (Ctl (Int × (List (Int × (List Int))) × List S_api_Piece) (Ctl (Int × (List (Int × (List Int))) × List S_api_Piece) (Bool × (List (Int × (List Int))) × List S_api_Piece))) :=
  (((ifb (decide (s9.1 ≥ p1)) ((guard_rule_into p3 x10.Speed p4 p5 p6 p7 p8 p9 p10 p11 p12 p13 s9.2.2 s9.2.1).bind fun (x14 : Int × (List (Int × (List Int))) × List S_api_Piece) => (ifb (decide (x14.1 > (w64 (s9.1 - p1)))) (some (.out (false, x14.2.1, x14.2.2))) (some (.go (x14.2.1, x14.2.2))))) ((ifb (decide ((w64 (s9.1 + x10.Length)) > (w64 (p0 - (w64 (100 * p5)))))) (some (decide (p3 > x10.Speed))) (some false)).bind fun (s15 : Bool) => (ifb s15 (some (.out (false, s9.2.1, s9.2.2))) (some (.go (s9.2.1, s9.2.2)))))) : Option (Ctl ((List (Int × (List Int))) × List S_api_Piece) (Bool × (List (Int × (List Int))) × List S_api_Piece))).bind fun c17 => Ctl.on c17 (fun s13 => (some (.go (w64 (s9.1 + x10.Length), s13.1, s13.2)))) (fun r16 => (some (.out (.out r16)))))
def guard_rule_may (p0 : Int) (p1 : Int) (p2 : Int) (p3 : Int) (p4 : ByteArray) (p5 : Int) (p6 : Int) (p7 : Int) (p8 : Int) (p9 : Int) (p10 : Int) (p11 : Int) (p12 : Int) (p13 : Int) (p14 : List S_api_Piece) (p15 : List (Int × (List Int))) : Option (Bool × (List (Int × (List Int))) × List S_api_Piece) :=
  ((guard_rule_into p3 0 p4 p5 p6 p7 p8 p9 p10 p11 p12 p13 p14 p15).bind fun (x5 : Int × (List (Int × (List Int))) × List S_api_Piece) => (ifb (decide (x5.1 > (w64 (p2 - p1)))) (some (false, x5.2.1, x5.2.2)) ((forX (guard_rule_may_b1 p0 p1 p3 p4 p5 p6 p7 p8 p9 p10 p11 p12 p13) x5.2.2 (0, x5.2.1, x5.2.2)).bind fun c19 => Ctl.on c19 (fun s8 => (some (true, s8.2.1, s8.2.2))) (fun r18 => (some r18)))))
def guard_Permit_b1 (i14 : Nat) (x18 : S_api_Piece) (s17 : Int) : Option (Ctl (Int) (Ctl (Int) (Empty))) :=
  (some (.go (w64 (s17 + x18.Length))))
def guard_Permit_b2 (p0 : S_api_Stock) (p2 : Int) (p3 : Int) (p4 : Int) (p5 : Int) (s31 : Int × (List (Int × (List Int))) × List S_api_Piece) : Option (Ctl (Int × (List (Int × (List Int))) × List S_api_Piece) (Ctl (Int × (List (Int × (List Int))) × List S_api_Piece) (Empty))) :=
  ((ifb (decide (s31.1 ≥ 0)) ((gquoK .i64 (w64 ((w64 (p5 + s31.1)) + 1)) 2).bind fun (q35 : Int) => ((guard_rule_may p2 (w64 (p3 + q35)) p4 s31.1 p0.Name p0.Length p0.Mass p0.Start p0.Power p0.Roll p0.Drag p0.Brake p0.Top p0.Seats s31.2.2 s31.2.1).bind fun (x36 : Bool × (List (Int × (List Int))) × List S_api_Piece) => (some ((!x36.1), x36.2.1, x36.2.2)))) (some (false, s31.2.1, s31.2.2))).bind fun (s34 : Bool × (List (Int × (List Int))) × List S_api_Piece) => (ifb s34.1 (some (.go (w64 (s31.1 - 1), s34.2.1, s34.2.2))) (some (.out (.go (s31.1, s34.2.1, s34.2.2))))))
def guard_Permit (p0 : S_api_Stock) (p1 : List S_api_Piece) (p2 : Int) (p3 : Int) (p4 : Int) (p5 : Int) : Option (Int × Int) :=
  ((run_Second p0 p1 (S_api_State.mk 0 0 0) 0).bind fun (x13 : Int × S_api_State) => (ifb (x13.1 != 0) (some (0, x13.1)) ((forX guard_Permit_b1 p1 0).bind fun c40 => Ctl.on c40 (fun s16 => (((guard_within p2 0 s16).bind fun (x24 : Bool) => (ifb (!x24) (some true) ((guard_within p3 0 s16).bind fun (x25 : Bool) => (ifb (!x25) (some true) (ifb (decide (p2 > p3)) (some true) ((guard_within p4 0 s16).bind fun (x26 : Bool) => (ifb (!x26) (some true) ((guard_within p5 0 p0.Top).bind fun (x27 : Bool) => (some (!x27)))))))))).bind fun (s23 : Bool) => (ifb s23 (some (0, 2)) ((iter (guard_Permit_b2 p0 p2 p3 p4 p5) (p0.Top, ([] : List (Int × (List Int))), p1)).bind fun c38 => Ctl.on c38 (fun s30 => (some (s30.1, 0))) (fun x_ => x_.elim))))) (fun x_ => x_.elim))))
def run_Gain (p0 : S_api_Stock) (p1 : Int) (p2 : Int) : Option (Int × Int) :=
  ((run_Check p0).bind fun (x6 : Int) => (ifb (x6 != 0) (some (0, x6)) (((run_within p1 0 6000).bind fun (x10 : Bool) => (ifb (!x10) (some true) ((run_within p2 (-40) 40).bind fun (x11 : Bool) => (some (!x11))))).bind fun (s9 : Bool) => (ifb s9 (some (0, 2)) ((run_gain p0 p1 p2).bind fun (x12 : Int) => (some (x12, 0)))))))
def guard_Next_b1 (p2 : S_api_State) (i21 : Nat) (x25 : S_api_Piece) (s24 : Int × Int) : Option (Ctl (Int × Int) (Ctl (Int × Int) (Empty))) :=
  ((ifb (decide (s24.2 ≤ p2.At)) (some x25.Grade) (some s24.1)).bind fun (s26 : Int) => (some (.go (s26, w64 (s24.2 + x25.Length)))))
def guard_Next (p0 : S_api_Stock) (p1 : List S_api_Piece) (p2 : S_api_State) (p3 : Int) (p4 : Int) (p5 : Int) (p6 : Int) : Option (Int × S_api_State) :=
  ((guard_Permit p0 p1 p3 p4 p5 p2.Speed).bind fun (x13 : Int × Int) => (ifb (x13.2 != 0) (some (x13.2, (S_api_State.mk 0 0 0))) (((guard_within p2.At p3 p4).bind fun (x18 : Bool) => (ifb (!x18) (some true) ((guard_within p2.Work 0 1152921504606846976).bind fun (x19 : Bool) => (ifb (!x19) (some true) ((guard_within p6 0 6000).bind fun (x20 : Bool) => (some (!x20))))))).bind fun (s17 : Bool) => (ifb s17 (some (2, (S_api_State.mk 0 0 0))) ((forX (guard_Next_b1 p2) p1 (0, 0)).bind fun c33 => Ctl.on c33 (fun s23 => ((run_Gain p0 p2.Speed s23.1).bind fun (x27 : Int × Int) => ((gquoK .i64 (w64 ((w64 (p2.Speed + (gmax (gmin (gmin (gmin p6 x13.1) (w64 (p2.Speed + x27.1))) p0.Top) (gmax 0 (w64 (p2.Speed - (w64 (p0.Brake + s23.1)))))))) + 1)) 2).bind fun (q28 : Int) => (((gquoK .i64 (w64 (p2.Speed * p2.Speed)) p0.Drag).bind fun (q31 : Int) => (ifb (decide ((w64 ((w64 ((w64 ((w64 ((gmax (gmin (gmin (gmin p6 x13.1) (w64 (p2.Speed + x27.1))) p0.Top) (gmax 0 (w64 (p2.Speed - (w64 (p0.Brake + s23.1)))))) - p2.Speed)) + p0.Roll)) + q31)) + s23.1)) > 0)) (some (w64 (p2.Work + (w64 ((w64 (p0.Mass * (w64 ((w64 ((w64 ((w64 ((gmax (gmin (gmin (gmin p6 x13.1) (w64 (p2.Speed + x27.1))) p0.Top) (gmax 0 (w64 (p2.Speed - (w64 (p0.Brake + s23.1)))))) - p2.Speed)) + p0.Roll)) + q31)) + s23.1)))) * (w64 ((w64 (p2.At + q28)) - p2.At))))))) (some p2.Work))).bind fun (s30 : Int) => (some (0, (S_api_State.mk (w64 (p2.At + q28)) (gmax (gmin (gmin (gmin p6 x13.1) (w64 (p2.Speed + x27.1))) p0.Top) (gmax 0 (w64 (p2.Speed - (w64 (p0.Brake + s23.1)))))) s30))))))) (fun x_ => x_.elim))))))
def fishkeep1_GuardSeconds (p0 : S_api_Stock) (p1 : List S_api_Piece) (p2 : S_api_State) (p3 : Int) : Option (Bool) :=
  ((fishkeep1_awakeGuard).bind fun (x5 : Bool) => (ifb (!x5) (some false) ((run_Second p0 p1 p2 p3).bind fun (x6 : Int × S_api_State) => (ifb (x6.1 != 0) (some true) ((guard_Next p0 p1 p2 p2.At p2.At p3 6000).bind fun (x7 : Int × S_api_State) => ((ifb (x7.1 == 0) (some (ieq x6.2.At x7.2.At && (ieq x6.2.Speed x7.2.Speed && (ieq x6.2.Work x7.2.Work && true)))) (some false)).bind fun (s8 : Bool) => (some s8)))))))
def guard_Span (p0 : Int) (p1 : Int) (p2 : Bool) : Option (Int × Int × Int) :=
  (((guard_within p0 0 20000000).bind fun (x8 : Bool) => (ifb (!x8) (some true) ((guard_within p1 0 20000000).bind fun (x9 : Bool) => (some (!x9))))).bind fun (s7 : Bool) => (ifb s7 (some (0, 0, 2)) (ifb (!p2) (some (w64 (p0 + p1), w64 (p0 + p1), 0)) ((gquoK .i64 p1 20).bind fun (q10 : Int) => (some (gmax p0 (w64 ((w64 (p0 + p1)) - (w64 (200 + q10)))), w64 ((w64 (p0 + p1)) + (w64 (200 + q10))), 0))))))
def run_into_b1 (p0 : S_api_Stock) (p2 : Int) (s7 : Int × Int) : Option (Ctl (Int × Int) (Ctl (Int) (Empty))) :=
  (ifb (decide (s7.1 > p2)) ((run_gone s7.1 (gmax p2 (w64 (s7.1 - (w64 (p0.Brake - 40)))))).bind fun (x8 : Int) => (some (.go (gmax p2 (w64 (s7.1 - (w64 (p0.Brake - 40)))), w64 (s7.2 + x8))))) (some (.out (.go s7.2))))
def run_into (p0 : S_api_Stock) (p1 : Int) (p2 : Int) : Option (Int) :=
  ((iter (run_into_b1 p0 p2) (p1, 0)).bind fun c10 => Ctl.on c10 (fun s6 => (some s6)) (fun x_ => x_.elim))
def run_Into (p0 : S_api_Stock) (p1 : Int) (p2 : Int) : Option (Int × Int) :=
  ((run_Check p0).bind fun (x6 : Int) => (ifb (x6 != 0) (some (0, x6)) (((run_within p1 0 6000).bind fun (x10 : Bool) => (ifb (!x10) (some true) ((run_within p2 0 6000).bind fun (x11 : Bool) => (some (!x11))))).bind fun (s9 : Bool) => (ifb s9 (some (0, 2)) ((run_into p0 p1 p2).bind fun (x12 : Int) => (some (x12, 0)))))))
def run_Stop (p0 : S_api_Stock) (p1 : Int) : Option (Int × Int) :=
  ((run_Into p0 p1 0).bind fun (x2 : Int × Int) => (some (x2.1, x2.2)))
def fishkeep1_limitsKept_b1 (p0 : S_api_Stock) (p2 : S_api_State) (p3 : S_api_State) (i4 : Nat) (x8 : S_api_Piece) (s7 : Int) : Option (Ctl (Int) (Ctl (Int) (Bool))) :=
  ((ifb (decide (s7 < p3.At)) (ifb (decide ((w64 (s7 + x8.Length)) > (w64 (p2.At - (w64 (100 * p0.Length)))))) (some (decide (p3.Speed > x8.Speed))) (some false)) (some false)).bind fun (s9 : Bool) => (ifb s9 (some (.out (.out false))) (some (.go (w64 (s7 + x8.Length))))))
def fishkeep1_limitsKept (p0 : S_api_Stock) (p1 : List S_api_Piece) (p2 : S_api_State) (p3 : S_api_State) : Option (Bool) :=
  ((forX (fishkeep1_limitsKept_b1 p0 p2 p3) p1 0).bind fun c11 => Ctl.on c11 (fun s6 => (some true)) (fun r10 => (some r10)))
def fishkeep1_GuardStops_b1 (i12 : Nat) (x16 : S_api_Piece) (s15 : Int) : Option (Ctl (Int) (Ctl (Int) (Empty))) :=
  (some (.go (w64 (s15 + x16.Length))))
def fishkeep1_GuardStops_b2 (p0 : S_api_Stock) (p1 : List S_api_Piece) (s14 : Int) (i18 : Nat) (x22 : S_fishkeep1_Ride) (s21 : Int × Int × Int × Int × Int) : Option (Ctl (Int × Int × Int × Int × Int) (Ctl (Int × Int × Int × Int × Int) (Bool))) :=
  ((ifb (s21.2.2.2.1 == 0) (some s21.2.2.1) (some s21.2.1)).bind fun (s23 : Int) => ((guard_Span s23 (w64 (s21.2.2.1 - s23)) true).bind fun (x24 : Int × Int × Int) => ((ifb (x24.2.2 != 0) (some true) (ifb (decide (x22.Err < (-1000))) (some true) (some (decide (x22.Err > 1000))))).bind fun (s25 : Bool) => (ifb s25 (some (.out (.out true))) ((gquoK .i64 (w64 (x24.2.1 - x24.1)) 2).bind fun (q26 : Int) => ((gquoK .i64 (w64 (q26 * (w64 (1000 - x22.Err)))) 1000).bind fun (q27 : Int) => ((gquoK .i64 (w64 (q26 * (w64 (1000 + x22.Err)))) 1000).bind fun (q28 : Int) => ((run_Stop p0 s21.2.2.2.1).bind fun (x29 : Int × Int) => (((ifb (decide (x22.End ≥ (w64 ((gmin (w64 (s21.2.2.1 + q28)) s14) + x29.1)))) (some (decide (x22.End ≤ s14))) (some false)).bind fun (s32 : Bool) => (ifb s32 (some x22.End) (some s21.1))).bind fun (s31 : Int) => ((ifb (decide (x22.Demand < 0)) (some true) (some (decide (x22.Demand > 6000)))).bind fun (s33 : Bool) => (ifb s33 (some (.out (.out true))) ((guard_Next p0 p1 (S_api_State.mk s21.2.2.1 s21.2.2.2.1 s21.2.2.2.2) (gmax (w64 (s21.2.2.1 - q27)) 0) (gmin (w64 (s21.2.2.1 + q28)) s14) s31 x22.Demand).bind fun (x34 : Int × S_api_State) => ((ifb (x34.1 != 0) (some true) (ifb (decide (x34.2.At > s31)) (some true) (ifb (decide (x34.2.At < s21.2.2.1)) (some true) (ifb (decide (x34.2.Speed > (gmax x22.Demand s21.2.2.2.1))) (some true) ((fishkeep1_limitsKept p0 p1 (S_api_State.mk s21.2.2.1 s21.2.2.2.1 s21.2.2.2.2) x34.2).bind fun (x37 : Bool) => (some (!x37))))))).bind fun (s36 : Bool) => (ifb s36 (some (.out (.out false))) (some (.go (s31, s23, x34.2.At, x34.2.Speed, x34.2.Work)))))))))))))))))
def fishkeep1_GuardStops (p0 : S_api_Stock) (p1 : List S_api_Piece) (p2 : Int) (p3 : Int) (p4 : List S_fishkeep1_Ride) : Option (Bool) :=
  ((fishkeep1_awakeGuard).bind fun (x10 : Bool) => (ifb (!x10) (some false) ((run_Second p0 p1 (S_api_State.mk p2 0 0) p3).bind fun (x11 : Int × S_api_State) => (ifb (x11.1 != 0) (some true) ((forX fishkeep1_GuardStops_b1 p1 0).bind fun c41 => Ctl.on c41 (fun s14 => ((gcut p4 0 (gmin ((p4.length) : Int) 400)).bind fun (x17 : List S_fishkeep1_Ride) => ((forX (fishkeep1_GuardStops_b2 p0 p1 s14) x17 (p3, p2, p2, 0, 0)).bind fun c39 => Ctl.on c39 (fun s20 => (some true)) (fun r38 => (some r38))))) (fun x_ => x_.elim))))))
end Hd
