/- Functions of the program as plain functions. Printed by a tool. -/
import Derived.Test.YthkbjhdcjlghaaaD1
set_option linter.unusedVariables false
set_option linter.unusedSimpArgs false
set_option maxRecDepth 100000
set_option maxHeartbeats 4000000
namespace Hd
open Go Hk
structure S_plan_Rule where
  From : Int
  To : Int
  Min : Int
  Max : Int
  Weight : Int
structure S_plan_Periodic where
  Period : Int
  Events : Int
  Rules : List S_plan_Rule
def plan_within (p0 : Int) (p1 : Int) (p2 : Int) : Option (Bool) :=
  ((ifb (decide (p0 ≥ p1)) (some (decide (p0 ≤ p2))) (some false)).bind fun (s2 : Bool) => (some s2))
def plan_CheckPeriodic_b1 (p0 : S_plan_Periodic) (i12 : Nat) (x16 : S_plan_Rule) (s15 : Unit) : Option (Ctl (Unit) (Ctl (Unit) (Int))) :=
  (((plan_within x16.From 0 (w64 (p0.Events - 1))).bind fun (x20 : Bool) => (ifb (!x20) (some true) ((plan_within x16.To 0 (w64 (p0.Events - 1))).bind fun (x21 : Bool) => (some (!x21))))).bind fun (s19 : Bool) => (ifb s19 (some (.out (.out 3))) (ifb (x16.From == x16.To) (some (.out (.out 1))) (((plan_within x16.Min 0 3600).bind fun (x26 : Bool) => (ifb (!x26) (some true) ((plan_within x16.Max x16.Min (w64 ((w64 (x16.Min + p0.Period)) - 1))).bind fun (x27 : Bool) => (ifb (!x27) (some true) ((plan_within x16.Weight 0 1000).bind fun (x28 : Bool) => (some (!x28))))))).bind fun (s25 : Bool) => (ifb s25 (some (.out (.out 2))) (some (.go ())))))))
def plan_CheckPeriodic (p0 : S_plan_Periodic) : Option (Int) :=
  (((plan_within p0.Period 2 3600).bind fun (x10 : Bool) => (ifb (!x10) (some true) ((plan_within p0.Events 1 8).bind fun (x11 : Bool) => (some (!x11))))).bind fun (s9 : Bool) => (ifb s9 (some 2) (ifb (decide (((p0.Rules.length) : Int) > 40)) (some 4) ((forX (plan_CheckPeriodic_b1 p0) p0.Rules ()).bind fun c30 => Ctl.on c30 (fun s14 => (some 0)) (fun r29 => (some r29))))))
def plan_checkTimes_b1 (p0 : S_plan_Periodic) (i6 : Nat) (x10 : Int) (s9 : Unit) : Option (Ctl (Unit) (Ctl (Unit) (Int))) :=
  ((plan_within x10 0 (w64 (p0.Period - 1))).bind fun (x11 : Bool) => (ifb (!x11) (some (.out (.out 2))) (some (.go ()))))
def plan_checkTimes (p0 : S_plan_Periodic) (p1 : List Int) : Option (Int) :=
  ((plan_CheckPeriodic p0).bind fun (x5 : Int) => (ifb (x5 != 0) (some x5) (ifb (((p1.length) : Int) != p0.Events) (some 1) ((forX (plan_checkTimes_b1 p0) p1 ()).bind fun c13 => Ctl.on c13 (fun s8 => (some 0)) (fun r12 => (some r12))))))
def plan_gap (p0 : S_plan_Periodic) (p1 : S_plan_Rule) (p2 : List Int) : Option (Int) :=
  ((idx p2 p1.To).bind fun (x5 : Int) => ((idx p2 p1.From).bind fun (x6 : Int) => ((gremK (w64 ((w64 (x5 - x6)) - p1.Min)) p0.Period).bind fun (q7 : Int) => ((ifb (decide (q7 < 0)) (some (w64 (q7 + p0.Period))) (some q7)).bind fun (s8 : Int) => (some (w64 (p1.Min + s8)))))))
def plan_Gap (p0 : S_plan_Periodic) (p1 : Int) (p2 : List Int) : Option (Int × Int) :=
  ((plan_checkTimes p0 p2).bind fun (x5 : Int) => (ifb (x5 != 0) (some (0, x5)) ((plan_within p1 0 (w64 (((p0.Rules.length) : Int) - 1))).bind fun (x6 : Bool) => (ifb (!x6) (some (0, 3)) ((idx p0.Rules p1).bind fun (x7 : S_plan_Rule) => ((plan_gap p0 x7 p2).bind fun (x8 : Int) => (some (x8, 0))))))))
def fishkeep2_awakePlan : Option (Bool) :=
  ((plan_Gap (S_plan_Periodic.mk 0 0 ([] : List S_plan_Rule)) (-1) ([] : List Int)).bind fun (x2 : Int × Int) => (some (x2.2 != 0)))
def math_bits_Mul64 (p0 : Int) (p1 : Int) : Option (Int × Int) :=
  ((gshr .u64 p0 32).bind fun (q6 : Int) => ((gshr .u64 p1 32).bind fun (q7 : Int) => ((gshr .u64 (IntKind.u64.wrap ((iand .u64 p0 4294967295) * (iand .u64 p1 4294967295))) 32).bind fun (q8 : Int) => ((gshr .u64 (IntKind.u64.wrap ((IntKind.u64.wrap (q6 * (iand .u64 p1 4294967295))) + q8)) 32).bind fun (q9 : Int) => ((gshr .u64 (IntKind.u64.wrap ((iand .u64 (IntKind.u64.wrap ((IntKind.u64.wrap (q6 * (iand .u64 p1 4294967295))) + q8)) 4294967295) + (IntKind.u64.wrap ((iand .u64 p0 4294967295) * q7)))) 32).bind fun (q10 : Int) => (some (IntKind.u64.wrap ((IntKind.u64.wrap ((IntKind.u64.wrap (q6 * q7)) + q9)) + q10), IntKind.u64.wrap (p0 * p1))))))))
def math_bits_Mul (p0 : Int) (p1 : Int) : Option (Int × Int) :=
  ((math_bits_Mul64 p0 p1).bind fun (x2 : Int × Int) => (some (x2.1, x2.2)))
def slices_Repeat_bool_bool_b1 (s13 : Int × List Bool) : Option (Ctl (Int × List Bool) (Ctl (List Bool) (Empty))) :=
  (ifb (decide (s13.1 < ((s13.2.length) : Int))) ((gcut s13.2 s13.1 (s13.2.length : Int)).bind fun (x14 : List Bool) => ((gcut s13.2 0 s13.1).bind fun (x15 : List Bool) => ((gcut s13.2 0 s13.1).bind fun (x16 : List Bool) => ((gcut s13.2 s13.1 (s13.2.length : Int)).bind fun (x17 : List Bool) => (some (.go (w64 (s13.1 + (min (x17.length : Int) (x16.length : Int))), (gcopy s13.2 s13.1.toNat x17.length x16)))))))) (some (.out (.go s13.2))))
def slices_Repeat_bool_bool (p0 : List Bool) (p1 : Int) : Option (List Bool) :=
  (ifb (decide (p1 < 0)) none ((math_bits_Mul (IntKind.u64.wrap ((p0.length) : Int)) (IntKind.u64.wrap p1)).bind fun (x7 : Int × Int) => ((ifb (decide (x7.1 > 0)) (some true) (some (decide (x7.2 > 9223372036854775807)))).bind fun (s8 : Bool) => (ifb s8 none ((gmake 1 (w64 x7.2) false).bind fun (x9 : List Bool) => ((iter slices_Repeat_bool_bool_b1 (min (x9.length : Int) (p0.length : Int), (gcopy x9 0 x9.length p0))).bind fun c19 => Ctl.on c19 (fun s12 => (some s12)) (fun x_ => x_.elim)))))))
def plan_newSearch (p0 : S_plan_Periodic) : Option (Int × Int × List S_plan_Rule × List Int × List Bool) :=
  (((gmake 8 ((p0.Rules.length) : Int) (0 : Int)).bind fun (x7 : List Int) => ((slices_Repeat_bool_bool [true] ((p0.Rules.length) : Int)).bind fun (x8 : List Bool) => (some (p0.Period, p0.Events, p0.Rules, x7, x8)))).bind fun (s6 : Int × Int × List S_plan_Rule × List Int × List Bool) => (some (s6.1, s6.2.1, s6.2.2.1, s6.2.2.2.1, s6.2.2.2.2)))
def plan_floor (p0 : Int) (p1 : Int) : Option (Int) :=
  ((gquoK .i64 p0 p1).bind fun (q4 : Int) => (((gremK p0 p1).bind fun (q7 : Int) => (ifb (decide (q7 < 0)) (some (w64 (q4 - 1))) (some q4))).bind fun (s6 : Int) => (some s6)))
def plan_search_start_v2_b2 (p0 : Int) (i4 : Nat) (i8 : Nat) (s11 : List Int) : Option (Ctl (List Int) (Ctl (List Int) (Empty))) :=
  (ifb ((i4 : Int) != (i8 : Int)) ((gix 8 (i4 : Int)).bind fun (x12 : Unit) => ((gix 8 (i8 : Int)).bind fun (x13 : Unit) => ((idx s11 ((0 + (i4 : Int) * 8) + (i8 : Int) * 1)).bind fun (x14 : Int) => (some (.go (setI s11 ((0 + (i4 : Int) * 8) + (i8 : Int) * 1) (w64 (p0 - 1)))))))) (some (.go s11)))
def plan_search_start_v2_b1 (p0 : Int) (p1 : Int) (i4 : Nat) (s7 : List Int) : Option (Ctl (List Int) (Ctl (List Int) (Empty))) :=
  ((glim p1).bind fun _ => ((forN (plan_search_start_v2_b2 p0 i4) (p1).toNat s7).bind fun c19 => Ctl.on c19 (fun s10 => ((gix 8 (i4 : Int)).bind fun (x15 : Unit) => ((gix 8 0).bind fun (x16 : Unit) => ((idx s10 ((0 + (i4 : Int) * 8) + 0 * 1)).bind fun (x17 : Int) => (some (.go (setI s10 ((0 + (i4 : Int) * 8) + 0 * 1) 0))))))) (fun x_ => x_.elim)))
def plan_search_start_v2 (p0 : Int) (p1 : Int) (p2 : List S_plan_Rule) (p3 : List Int) (p4 : List Bool) : Option (List S_plan_Rule × List Int) :=
  ((glim p1).bind fun _ => ((forN (plan_search_start_v2_b1 p0 p1) (p1).toNat (List.replicate 64 (0 : Int))).bind fun c21 => Ctl.on c21 (fun s6 => (some (p2, s6))) (fun x_ => x_.elim)))
def plan_solve_1_v3 (p0 : Option (List Int)) (p1 : Int) (p2 : Int) : Option (Bool) :=
  ((p0).bind fun (x5 : List Int) => ((gix 8 p1).bind fun (x6 : Unit) => ((gix 8 0).bind fun (x7 : Unit) => ((idx x5 ((0 + p1 * 8) + 0 * 1)).bind fun (x8 : Int) => (some (decide ((w64 (0 - x8)) ≥ p2)))))))
def plan_search_choices_v4_b1 (p0 : Option (List Int)) (p1 : S_plan_Rule) (p2 : Int) (s17 : Int × List Int) : Option (Ctl (Int × List Int) (Ctl (List Int) (Empty))) :=
  ((p0).bind fun (x18 : List Int) => ((gix 8 p1.To).bind fun (x19 : Unit) => ((gix 8 p1.From).bind fun (x20 : Unit) => ((idx x18 ((0 + p1.To * 8) + p1.From * 1)).bind fun (x21 : Int) => (ifb (decide ((w64 (p1.Max - (w64 (s17.1 * p2)))) ≥ (w64 (0 - x21)))) ((gapp 8 s17.2 [s17.1]).bind fun (x22 : List Int) => (some (.go (w64 (s17.1 + 1), x22)))) (some (.out (.go s17.2))))))))
def plan_search_choices_v4 (p0 : Option (List Int)) (p1 : S_plan_Rule) (p2 : Int) (p3 : Int) (p4 : List S_plan_Rule) (p5 : List Int) (p6 : List Bool) (p7 : Int) (p8 : Int) : Option (List S_plan_Rule × List Int) :=
  ((p0).bind fun (x9 : List Int) => ((gix 8 p1.From).bind fun (x10 : Unit) => ((gix 8 p1.To).bind fun (x11 : Unit) => ((idx x9 ((0 + p1.From * 8) + p1.To * 1)).bind fun (x12 : Int) => ((plan_floor (w64 (x12 - p1.Min)) p2).bind fun (x13 : Int) => ((iter (plan_search_choices_v4_b1 p0 p1 p2) (w64 (0 - x13), ([] : List Int))).bind fun c24 => Ctl.on c24 (fun s16 => (some (p4, s16))) (fun x_ => x_.elim)))))))
def plan_solve_2 (p0 : Option (List Int)) (p1 : List Int) (p2 : Int) (p3 : Int) : Option (Int) :=
  ((p0).bind fun (x5 : List Int) => ((gix 8 p2).bind fun (x6 : Unit) => ((gix 8 0).bind fun (x7 : Unit) => ((idx x5 ((0 + p2 * 8) + 0 * 1)).bind fun (x8 : Int) => (some (w64 (0 - x8)))))))
def plan_bounds_closed_b2 (p0 : Option (List Int)) (p2 : Int) (p3 : Int) (p4 : Int) (i28 : Nat) (i32 : Nat) (s35 : List Int) : Option (Ctl (List Int) (Ctl (List Int) (Empty))) :=
  ((gix 8 (i28 : Int)).bind fun (x36 : Unit) => ((gix 8 (i32 : Int)).bind fun (x37 : Unit) => ((idx s35 ((0 + (i28 : Int) * 8) + (i32 : Int) * 1)).bind fun (x38 : Int) => ((p0).bind fun (x39 : List Int) => ((gix 8 (i28 : Int)).bind fun (x40 : Unit) => ((gix 8 p2).bind fun (x41 : Unit) => ((idx x39 ((0 + (i28 : Int) * 8) + p2 * 1)).bind fun (x42 : Int) => ((p0).bind fun (x43 : List Int) => ((gix 8 p3).bind fun (x44 : Unit) => ((gix 8 (i32 : Int)).bind fun (x45 : Unit) => ((idx x43 ((0 + p3 * 8) + (i32 : Int) * 1)).bind fun (x46 : Int) => ((gix 8 (i28 : Int)).bind fun (x47 : Unit) => ((gix 8 (i32 : Int)).bind fun (x48 : Unit) => ((idx s35 ((0 + (i28 : Int) * 8) + (i32 : Int) * 1)).bind fun (x49 : Int) => (some (.go (setI s35 ((0 + (i28 : Int) * 8) + (i32 : Int) * 1) (gmin x38 (w64 ((w64 (x42 + p4)) + x46))))))))))))))))))))
def plan_bounds_closed_b1 (p0 : Option (List Int)) (p1 : Int) (p2 : Int) (p3 : Int) (p4 : Int) (i28 : Nat) (s31 : List Int) : Option (Ctl (List Int) (Ctl (List Int) (Empty))) :=
  ((glim p1).bind fun _ => ((forN (plan_bounds_closed_b2 p0 p2 p3 p4 i28) (p1).toNat s31).bind fun c51 => Ctl.on c51 (fun s34 => (some (.go s34))) (fun x_ => x_.elim)))
def plan_bounds_closed (p0 : Option (List Int)) (p1 : Int) (p2 : Int) (p3 : Int) (p4 : Int) : Option (Option (List Int) × Bool) :=
  ((p0).bind fun (x16 : List Int) => ((gix 8 p2).bind fun (x17 : Unit) => ((gix 8 p3).bind fun (x18 : Unit) => ((idx x16 ((0 + p2 * 8) + p3 * 1)).bind fun (x19 : Int) => (ifb (decide (x19 ≤ p4)) (some (p0, true)) ((p0).bind fun (x20 : List Int) => ((gix 8 p3).bind fun (x21 : Unit) => ((gix 8 p2).bind fun (x22 : Unit) => ((idx x20 ((0 + p3 * 8) + p2 * 1)).bind fun (x23 : Int) => (ifb (decide ((w64 (x23 + p4)) < 0)) (some ((none : Option (List Int)), false)) ((p0).bind fun (x24 : List Int) => ((glen x24 64).bind fun (x25 : Unit) => ((glen (List.replicate 64 (0 : Int)) 64).bind fun (x26 : Unit) => ((glen x24 64).bind fun (x27 : Unit) => ((glim p1).bind fun _ => ((forN (plan_bounds_closed_b1 p0 p1 p2 p3 p4) (p1).toNat x24).bind fun c53 => Ctl.on c53 (fun s30 => (some ((some s30), true))) (fun x_ => x_.elim)))))))))))))))))
def plan_bounds_between (p0 : Option (List Int)) (p1 : Int) (p2 : Int) (p3 : Int) (p4 : Int) (p5 : Int) : Option (Option (List Int) × Bool) :=
  ((plan_bounds_closed p0 p1 p2 p3 p5).bind fun (x3 : Option (List Int) × Bool) => (ifb (!x3.2) (some ((none : Option (List Int)), false)) ((plan_bounds_closed x3.1 p1 p3 p2 (w64 (0 - p4))).bind fun (x4 : Option (List Int) × Bool) => (some (x4.1, x4.2)))))
def plan_search_run_b1 (p0 : Option (List Int)) (p1 : Int) (p2 : Int) (p4 : List Int) (p5 : List Bool) (p6 : Int) (p7 : Int) (i35 : Nat) (x39 : S_plan_Rule) (s38 : Int × List Int × List S_plan_Rule) : Option (Ctl (Int × List Int × List S_plan_Rule) (Ctl (Int × List Int × List S_plan_Rule) (List Int × List Bool × List S_plan_Rule × Int))) :=
  ((idx p5 (i35 : Int)).bind fun (x40 : Bool) => (ifb (!x40) (some (.go (s38.1, s38.2.1, s38.2.2))) ((plan_search_choices_v4 p0 x39 p1 p2 s38.2.2 p4 p5 p6 p7).bind fun (x41 : List S_plan_Rule × List Int) => (((ifb (decide (s38.1 < 0)) (some true) (some (decide (((x41.2.length) : Int) < ((s38.2.1.length) : Int))))).bind fun (s44 : Bool) => (ifb s44 (some ((i35 : Int), x41.2, x41.2)) (some (s38.1, s38.2.1, x41.2)))).bind fun (s43 : Int × List Int × List Int) => (ifb (((s43.2.2.length) : Int) == 0) (some (.out (.out (p4, p5, x41.1, p7)))) (some (.go (s43.1, s43.2.1, x41.1))))))))
def plan_search_run_b2 (rec_ : Option (List Int) → Int → Int → List S_plan_Rule → List Int → List Bool → Int → Int → Option (List Int × List Bool × List S_plan_Rule × Int)) (p0 : Option (List Int)) (p1 : Int) (p2 : Int) (p6 : Int) (s37 : Int × List Int × List S_plan_Rule) (x46 : S_plan_Rule) (i48 : Nat) (x52 : Int) (s51 : List Int × List Bool × List S_plan_Rule × Int) : Option (Ctl (List Int × List Bool × List S_plan_Rule × Int) (Ctl (List Int × List Bool × List S_plan_Rule × Int) (Empty))) :=
  ((plan_bounds_between p0 p2 x46.From x46.To (w64 (x46.Min - (w64 (x52 * p1)))) (w64 (x46.Max - (w64 (x52 * p1))))).bind fun (x53 : Option (List Int) × Bool) => (ifb x53.2 ((idx s51.1 s37.1).bind fun (x54 : Int) => ((rec_ x53.1 p1 p2 s51.2.2.1 (setI s51.1 s37.1 x52) s51.2.1 p6 s51.2.2.2).bind fun (x55 : List Int × List Bool × List S_plan_Rule × Int) => (some (.go (x55.1, x55.2.1, x55.2.2.1, x55.2.2.2))))) (some (.go (s51.1, s51.2.1, s51.2.2.1, s51.2.2.2)))))
def plan_search_run_step (rec_ : Option (List Int) → Int → Int → List S_plan_Rule → List Int → List Bool → Int → Int → Option (List Int × List Bool × List S_plan_Rule × Int)) (p0 : Option (List Int)) (p1 : Int) (p2 : Int) (p3 : List S_plan_Rule) (p4 : List Int) (p5 : List Bool) (p6 : Int) (p7 : Int) : Option (List Int × List Bool × List S_plan_Rule × Int) :=
  ((plan_solve_1_v3 p0 p6 p7).bind fun (x34 : Bool) => (ifb x34 (some (p4, p5, p3, p7)) ((forX (plan_search_run_b1 p0 p1 p2 p4 p5 p6 p7) p3 ((-1), ([] : List Int), p3)).bind fun c60 => Ctl.on c60 (fun s37 => (ifb (decide (s37.1 < 0)) ((plan_solve_2 p0 p4 p6 p7).bind fun (x45 : Int) => (some (p4, p5, s37.2.2, x45))) ((idx s37.2.2 s37.1).bind fun (x46 : S_plan_Rule) => ((idx p5 s37.1).bind fun (x47 : Bool) => ((forX (plan_search_run_b2 rec_ p0 p1 p2 p6 s37 x46) s37.2.1 (p4, (setI p5 s37.1 false), s37.2.2, p7)).bind fun c58 => Ctl.on c58 (fun s50 => ((idx s50.2.1 s37.1).bind fun (x56 : Bool) => (some (s50.1, (setI s50.2.1 s37.1 true), s50.2.2.1, s50.2.2.2)))) (fun x_ => x_.elim)))))) (fun r59 => (some r59)))))
def plan_search_run_n : Nat → Option (List Int) → Int → Int → List S_plan_Rule → List Int → List Bool → Int → Int → Option (List Int × List Bool × List S_plan_Rule × Int)
  | 0 => fun _ _ _ _ _ _ _ _ => none
  | n + 1 => plan_search_run_step (plan_search_run_n n)
def plan_search_run : Option (List Int) → Int → Int → List S_plan_Rule → List Int → List Bool → Int → Int → Option (List Int × List Bool × List S_plan_Rule × Int) := plan_search_run_n bigN
def plan_solve_b1 (p0 : S_plan_Periodic) (x6 : Int × Int × List S_plan_Rule × List Int × List Bool) (s11 : Option (List Int) × List Int × List Bool × List Int × List S_plan_Rule × List Int × Int) : Option (Ctl (Option (List Int) × List Int × List Bool × List Int × List S_plan_Rule × List Int × Int) (Ctl (List Int × List Bool × List Int × List S_plan_Rule × List Int) (Option (List Int)))) :=
  (ifb (decide (s11.2.2.2.2.2.2 < p0.Events)) ((plan_search_run s11.1 x6.1 x6.2.1 s11.2.2.2.2.1 s11.2.1 s11.2.2.1 s11.2.2.2.2.2.2 p0.Period).bind fun (x12 : List Int × List Bool × List S_plan_Rule × Int) => (ifb (x12.2.2.2 == p0.Period) (some (.out (.out (none : Option (List Int))))) ((gapp 8 s11.2.2.2.2.2.1 [x12.2.2.2]).bind fun (x13 : List Int) => ((plan_bounds_between s11.1 p0.Events 0 s11.2.2.2.2.2.2 x12.2.2.2 x12.2.2.2).bind fun (x14 : Option (List Int) × Bool) => (some (.go (x14.1, x12.1, x12.2.1, s11.2.2.2.1, x12.2.2.1, x13, w64 (s11.2.2.2.2.2.2 + 1)))))))) (some (.out (.go (s11.2.1, s11.2.2.1, s11.2.2.2.1, s11.2.2.2.2.1, s11.2.2.2.2.2.1)))))
def plan_solve (p0 : S_plan_Periodic) : Option (Option (List Int)) :=
  ((plan_newSearch p0).bind fun (x6 : Int × Int × List S_plan_Rule × List Int × List Bool) => ((plan_search_start_v2 x6.1 x6.2.1 x6.2.2.1 x6.2.2.2.1 x6.2.2.2.2).bind fun (x7 : List S_plan_Rule × List Int) => ((iter (plan_solve_b1 p0 x6) ((some x7.2), x6.2.2.2.1, x6.2.2.2.2, x7.2, x7.1, [0], 1)).bind fun c16 => Ctl.on c16 (fun s10 => (some (some s10.2.2.2.2))) (fun r15 => (some r15)))))
def plan_Solve (p0 : Int) (p1 : Int) (p2 : List S_plan_Rule) : Option (List Int × Int) :=
  ((plan_CheckPeriodic (S_plan_Periodic.mk p0 p1 p2)).bind fun (x3 : Int) => (ifb (x3 != 0) (some (([] : List Int), x3)) ((plan_solve (S_plan_Periodic.mk p0 p1 p2)).bind fun (x4 : Option (List Int)) => (ifb x4.isNone (some (([] : List Int), 9)) (some ((x4.getD []), 0))))))
def slices_Equal_int_int_b1 (p1 : List Int) (i4 : Nat) (x8 : Int) (s7 : Unit) : Option (Ctl (Unit) (Ctl (Unit) (Bool))) :=
  ((idx p1 (i4 : Int)).bind fun (x9 : Int) => (ifb (x8 != x9) (some (.out (.out false))) (some (.go ()))))
def slices_Equal_int_int (p0 : List Int) (p1 : List Int) : Option (Bool) :=
  (ifb (((p0.length) : Int) != ((p1.length) : Int)) (some false) ((forX (slices_Equal_int_int_b1 p1) p0 ()).bind fun c11 => Ctl.on c11 (fun s6 => (some true)) (fun r10 => (some r10))))
def fishkeep2_periods : Option (Bool) :=
  ((plan_Solve 10 2 [(S_plan_Rule.mk 0 1 3 4 0)]).bind fun (x4 : List Int × Int) => ((ifb (x4.2 == 0) ((slices_Equal_int_int x4.1 [0, 3]).bind fun (x7 : Bool) => (some x7)) (some false)).bind fun (s6 : Bool) => (some s6)))
def slices_Grow_plan_Rule_plan_Rule (p0 : Int) : Option (List S_plan_Rule) :=
  (ifb (decide (p0 < 0)) none ((ifb (decide ((w64 (p0 - (w64 (0 - (0 : Int))))) > 0)) ((gcut ([] : List S_plan_Rule) 0 0).bind fun (x9 : List S_plan_Rule) => ((gmake 40 (w64 (p0 - (w64 (0 - (0 : Int))))) (S_plan_Rule.mk 0 0 0 0 0)).bind fun (x10 : List S_plan_Rule) => ((gcut x10 0 (0 : Int)).bind fun (x11 : List S_plan_Rule) => (some x11)))) (some ([] : List S_plan_Rule))).bind fun (s8 : List S_plan_Rule) => (some s8)))
def slices_Concat_plan_Rule_plan_Rule_b1 (i8 : Nat) (x12 : List S_plan_Rule) (s11 : Int) : Option (Ctl (Int) (Ctl (Int) (Empty))) :=
  (ifb (decide ((w64 (s11 + ((x12.length) : Int))) < 0)) none (some (.go (w64 (s11 + ((x12.length) : Int))))))
def slices_Concat_plan_Rule_plan_Rule_b2 (i14 : Nat) (x18 : List S_plan_Rule) (s17 : List S_plan_Rule) : Option (Ctl (List S_plan_Rule) (Ctl (List S_plan_Rule) (Empty))) :=
  ((gapp 40 s17 x18).bind fun (x19 : List S_plan_Rule) => (some (.go x19)))
def slices_Concat_plan_Rule_plan_Rule (p0 : List (List S_plan_Rule)) : Option (List S_plan_Rule) :=
  ((forX slices_Concat_plan_Rule_plan_Rule_b1 p0 0).bind fun c23 => Ctl.on c23 (fun s10 => ((slices_Grow_plan_Rule_plan_Rule s10).bind fun (x13 : List S_plan_Rule) => ((forX slices_Concat_plan_Rule_plan_Rule_b2 p0 x13).bind fun c21 => Ctl.on c21 (fun s16 => (some s16)) (fun x_ => x_.elim)))) (fun x_ => x_.elim))
def plan_solve_v2_b1 (p0 : Int) (p1 : Int) (x6 : Int × Int × List S_plan_Rule × List Int × List Bool) (s11 : Option (List Int) × List Int × List Bool × List Int × List S_plan_Rule × List Int × Int) : Option (Ctl (Option (List Int) × List Int × List Bool × List Int × List S_plan_Rule × List Int × Int) (Ctl (List Int × List Bool × List Int × List S_plan_Rule × List Int) (Option (List Int)))) :=
  (ifb (decide (s11.2.2.2.2.2.2 < p1)) ((plan_search_run s11.1 x6.1 x6.2.1 s11.2.2.2.2.1 s11.2.1 s11.2.2.1 s11.2.2.2.2.2.2 p0).bind fun (x12 : List Int × List Bool × List S_plan_Rule × Int) => (ifb (x12.2.2.2 == p0) (some (.out (.out (none : Option (List Int))))) ((gapp 8 s11.2.2.2.2.2.1 [x12.2.2.2]).bind fun (x13 : List Int) => ((plan_bounds_between s11.1 p1 0 s11.2.2.2.2.2.2 x12.2.2.2 x12.2.2.2).bind fun (x14 : Option (List Int) × Bool) => (some (.go (x14.1, x12.1, x12.2.1, s11.2.2.2.1, x12.2.2.1, x13, w64 (s11.2.2.2.2.2.2 + 1)))))))) (some (.out (.go (s11.2.1, s11.2.2.1, s11.2.2.2.1, s11.2.2.2.2.1, s11.2.2.2.2.2.1)))))
def plan_solve_v2 (p0 : Int) (p1 : Int) (p2 : List S_plan_Rule) : Option (Option (List Int)) :=
  ((plan_newSearch (S_plan_Periodic.mk p0 p1 p2)).bind fun (x6 : Int × Int × List S_plan_Rule × List Int × List Bool) => ((plan_search_start_v2 x6.1 x6.2.1 x6.2.2.1 x6.2.2.2.1 x6.2.2.2.2).bind fun (x7 : List S_plan_Rule × List Int) => ((iter (plan_solve_v2_b1 p0 p1 x6) ((some x7.2), x6.2.2.2.1, x6.2.2.2.2, x7.2, x7.1, [0], 1)).bind fun c16 => Ctl.on c16 (fun s10 => (some (some s10.2.2.2.2))) (fun r15 => (some r15)))))
def plan_Core_b1 (p0 : S_plan_Periodic) (i8 : Nat) (x12 : S_plan_Rule) (s11 : List S_plan_Rule × List Int × List S_plan_Rule) : Option (Ctl (List S_plan_Rule × List Int × List S_plan_Rule) (Ctl (List S_plan_Rule × List Int × List S_plan_Rule) (Empty))) :=
  ((gcut s11.1 1 (s11.1.length : Int)).bind fun (x13 : List S_plan_Rule) => (((slices_Concat_plan_Rule_plan_Rule [s11.2.2, x13]).bind fun (x16 : List S_plan_Rule) => (some (p0.Period, p0.Events, x16))).bind fun (s15 : Int × Int × List S_plan_Rule) => ((plan_solve_v2 s15.1 s15.2.1 s15.2.2).bind fun (x17 : Option (List Int)) => (ifb (!x17.isNone) ((gapp 40 s11.2.2 [x12]).bind fun (x18 : List S_plan_Rule) => ((gapp 8 s11.2.1 [(i8 : Int)]).bind fun (x19 : List Int) => (some (.go (x13, x19, x18))))) (some (.go (x13, s11.2.1, s11.2.2)))))))
def plan_Core (p0 : S_plan_Periodic) : Option (Int × List Int) :=
  ((plan_CheckPeriodic p0).bind fun (x6 : Int) => (ifb (x6 != 0) (some (x6, ([] : List Int))) ((plan_solve p0).bind fun (x7 : Option (List Int)) => (ifb (!x7.isNone) (some (9, ([] : List Int))) ((forX (plan_Core_b1 p0) p0.Rules (p0.Rules, ([] : List Int), ([] : List S_plan_Rule))).bind fun c21 => Ctl.on c21 (fun s10 => (some (0, s10.2.1))) (fun x_ => x_.elim))))))
def fishkeep2_PlanCore_1 (p0 : Int) (p1 : Option S_plan_Periodic) : Option (Bool) :=
  ((ifb (decide (p0 < 0)) (some true) ((p1).bind fun (x5 : S_plan_Periodic) => (some (decide (p0 ≥ ((x5.Rules.length) : Int)))))).bind fun (s4 : Bool) => (some s4))
def slices_IndexFunc_int_int_b1 (p1 : Option S_plan_Periodic) (i4 : Nat) (x8 : Int) (s7 : Unit) : Option (Ctl (Unit) (Ctl (Unit) (Int))) :=
  ((fishkeep2_PlanCore_1 x8 p1).bind fun (x9 : Bool) => (ifb x9 (some (.out (.out (i4 : Int)))) (some (.go ()))))
def slices_IndexFunc_int_int (p0 : List Int) (p1 : Option S_plan_Periodic) : Option (Int) :=
  ((forX (slices_IndexFunc_int_int_b1 p1) p0 ()).bind fun c11 => Ctl.on c11 (fun s6 => (some (-1))) (fun r10 => (some r10)))
def slices_ContainsFunc_int_int (p0 : List Int) (p1 : Option S_plan_Periodic) : Option (Bool) :=
  ((slices_IndexFunc_int_int p0 p1).bind fun (x2 : Int) => (some (decide (x2 ≥ 0))))
def fishkeep2_PlanCore_2_b1 (p0 : Int) (p1 : Option S_plan_Periodic) (i10 : Nat) (x14 : Int) (s13 : List S_plan_Rule) : Option (Ctl (List S_plan_Rule) (Ctl (List S_plan_Rule) (Empty))) :=
  (ifb (x14 != p0) ((p1).bind fun (x15 : S_plan_Periodic) => ((idx x15.Rules x14).bind fun (x16 : S_plan_Rule) => ((gapp 40 s13 [x16]).bind fun (x17 : List S_plan_Rule) => (some (.go x17))))) (some (.go s13)))
def fishkeep2_PlanCore_2 (p0 : Int) (p1 : Option S_plan_Periodic) (p2 : Option (List Int)) : Option (S_plan_Periodic) :=
  ((p1).bind fun (x7 : S_plan_Periodic) => ((p1).bind fun (x8 : S_plan_Periodic) => ((p2).bind fun (x9 : List Int) => ((forX (fishkeep2_PlanCore_2_b1 p0 p1) x9 ([] : List S_plan_Rule)).bind fun c19 => Ctl.on c19 (fun s12 => (some (S_plan_Periodic.mk x7.Period x8.Events s12))) (fun x_ => x_.elim)))))
def plan_Solve_v2 (p0 : S_plan_Periodic) : Option (List Int × Int) :=
  ((plan_CheckPeriodic p0).bind fun (x3 : Int) => (ifb (x3 != 0) (some (([] : List Int), x3)) ((plan_solve p0).bind fun (x4 : Option (List Int)) => (ifb x4.isNone (some (([] : List Int), 9)) (some ((x4.getD []), 0))))))
def fishref2_within (p0 : Int) (p1 : Int) (p2 : Int) : Option (Bool) :=
  ((ifb (decide (p0 ≥ p1)) (some (decide (p0 ≤ p2))) (some false)).bind fun (s2 : Bool) => (some s2))
def fishref2_PeriodicFault_b1 (p0 : S_plan_Periodic) (i12 : Nat) (x16 : S_plan_Rule) (s15 : Unit) : Option (Ctl (Unit) (Ctl (Unit) (Int))) :=
  (((fishref2_within x16.From 0 (w64 (p0.Events - 1))).bind fun (x20 : Bool) => (ifb (!x20) (some true) ((fishref2_within x16.To 0 (w64 (p0.Events - 1))).bind fun (x21 : Bool) => (some (!x21))))).bind fun (s19 : Bool) => (ifb s19 (some (.out (.out 3))) (ifb (x16.From == x16.To) (some (.out (.out 1))) (((fishref2_within x16.Min 0 3600).bind fun (x25 : Bool) => (ifb (!x25) (some true) (ifb (decide (x16.Max < x16.Min)) (some true) (ifb (decide (x16.Max > (w64 ((w64 (x16.Min + p0.Period)) - 1)))) (some true) ((fishref2_within x16.Weight 0 1000).bind fun (x26 : Bool) => (some (!x26))))))).bind fun (s24 : Bool) => (ifb s24 (some (.out (.out 2))) (some (.go ())))))))
def fishref2_PeriodicFault (p0 : S_plan_Periodic) : Option (Int) :=
  (((fishref2_within p0.Period 2 3600).bind fun (x10 : Bool) => (ifb (!x10) (some true) ((fishref2_within p0.Events 1 8).bind fun (x11 : Bool) => (some (!x11))))).bind fun (s9 : Bool) => (ifb s9 (some 2) (ifb (decide (((p0.Rules.length) : Int) > 40)) (some 4) ((forX (fishref2_PeriodicFault_b1 p0) p0.Rules ()).bind fun c28 => Ctl.on c28 (fun s14 => (some 0)) (fun r27 => (some r27))))))
def fishref2_TimesFault_b1 (p0 : S_plan_Periodic) (i6 : Nat) (x10 : Int) (s9 : Unit) : Option (Ctl (Unit) (Ctl (Unit) (Int))) :=
  ((fishref2_within x10 0 (w64 (p0.Period - 1))).bind fun (x11 : Bool) => (ifb (!x11) (some (.out (.out 2))) (some (.go ()))))
def fishref2_TimesFault (p0 : S_plan_Periodic) (p1 : List Int) : Option (Int) :=
  ((fishref2_PeriodicFault p0).bind fun (x5 : Int) => (ifb (x5 != 0) (some x5) (ifb (((p1.length) : Int) != p0.Events) (some 1) ((forX (fishref2_TimesFault_b1 p0) p1 ()).bind fun c13 => Ctl.on c13 (fun s8 => (some 0)) (fun r12 => (some r12))))))
def fishref2_GapOf_b1 (p0 : S_plan_Periodic) (p1 : S_plan_Rule) (s14 : Int) : Option (Ctl (Int) (Ctl (Int) (Empty))) :=
  (ifb (decide (s14 < p1.Min)) (some (.go (w64 (s14 + p0.Period)))) (some (.out (.go s14))))
def fishref2_GapOf_b2 (p0 : S_plan_Periodic) (p1 : S_plan_Rule) (s18 : Int) : Option (Ctl (Int) (Ctl (Int) (Empty))) :=
  (ifb (decide (s18 ≥ (w64 (p1.Min + p0.Period)))) (some (.go (w64 (s18 - p0.Period)))) (some (.out (.go s18))))
def fishref2_GapOf (p0 : S_plan_Periodic) (p1 : S_plan_Rule) (p2 : List Int) : Option (Int) :=
  ((idx p2 p1.To).bind fun (x9 : Int) => ((idx p2 p1.From).bind fun (x10 : Int) => ((iter (fishref2_GapOf_b1 p0 p1) (w64 (x9 - x10))).bind fun c22 => Ctl.on c22 (fun s13 => ((iter (fishref2_GapOf_b2 p0 p1) s13).bind fun c20 => Ctl.on c20 (fun s17 => (some s17)) (fun x_ => x_.elim))) (fun x_ => x_.elim))))
def fishref2_BrokenOf_1 (p0 : S_plan_Rule) (p1 : Option S_plan_Periodic) (p2 : Option (List Int)) : Option (Bool) :=
  ((p1).bind fun (x4 : S_plan_Periodic) => ((p2).bind fun (x5 : List Int) => ((fishref2_GapOf x4 p0 x5).bind fun (x6 : Int) => (some (decide (x6 > p0.Max))))))
def slices_IndexFunc_plan_Rule_plan_Rule_b1 (p1 : Option S_plan_Periodic) (p2 : Option (List Int)) (i4 : Nat) (x8 : S_plan_Rule) (s7 : Unit) : Option (Ctl (Unit) (Ctl (Unit) (Int))) :=
  ((fishref2_BrokenOf_1 x8 p1 p2).bind fun (x9 : Bool) => (ifb x9 (some (.out (.out (i4 : Int)))) (some (.go ()))))
def slices_IndexFunc_plan_Rule_plan_Rule (p0 : List S_plan_Rule) (p1 : Option S_plan_Periodic) (p2 : Option (List Int)) : Option (Int) :=
  ((forX (slices_IndexFunc_plan_Rule_plan_Rule_b1 p1 p2) p0 ()).bind fun c11 => Ctl.on c11 (fun s6 => (some (-1))) (fun r10 => (some r10)))
def fishref2_BrokenOf (p0 : S_plan_Periodic) (p1 : List Int) : Option (Int) :=
  ((slices_IndexFunc_plan_Rule_plan_Rule p0.Rules (some p0) (some p1)).bind fun (x2 : Int) => (some x2))
def fishkeep2_PlanCore_b1 (p0 : S_plan_Periodic) (x12 : Int × List Int) (i16 : Nat) (x20 : Int) (s19 : Unit) : Option (Ctl (Unit) (Ctl (Unit) (Bool))) :=
  ((fishkeep2_PlanCore_2 x20 (some p0) (some x12.2)).bind fun (x21 : S_plan_Periodic) => ((plan_Solve_v2 x21).bind fun (x22 : List Int × Int) => ((ifb (x22.2 != 0) (some true) ((fishkeep2_PlanCore_2 x20 (some p0) (some x12.2)).bind fun (x28 : S_plan_Periodic) => ((fishref2_TimesFault x28 x22.1).bind fun (x29 : Int) => (ifb (x29 != 0) (some true) ((fishkeep2_PlanCore_2 x20 (some p0) (some x12.2)).bind fun (x30 : S_plan_Periodic) => ((fishref2_BrokenOf x30 x22.1).bind fun (x31 : Int) => (some (decide (x31 ≥ 0))))))))).bind fun (s27 : Bool) => (ifb s27 (some (.out (.out false))) (some (.go ()))))))
def fishkeep2_PlanCore (p0 : S_plan_Periodic) : Option (Bool) :=
  ((fishkeep2_awakePlan).bind fun (x10 : Bool) => (ifb (!x10) (some false) ((fishkeep2_periods).bind fun (x11 : Bool) => (ifb (!x11) (some false) ((plan_Core p0).bind fun (x12 : Int × List Int) => (ifb (x12.1 != 0) (some (((x12.2.length) : Int) == 0)) ((slices_ContainsFunc_int_int x12.2 (some p0)).bind fun (x13 : Bool) => (ifb x13 (some false) ((fishkeep2_PlanCore_2 (-1) (some p0) (some x12.2)).bind fun (x14 : S_plan_Periodic) => ((plan_Solve_v2 x14).bind fun (x15 : List Int × Int) => (ifb (x15.2 != 9) (some false) ((forX (fishkeep2_PlanCore_b1 p0 x12) x12.2 ()).bind fun c33 => Ctl.on c33 (fun s18 => (some true)) (fun r32 => (some r32))))))))))))))
end Hd
