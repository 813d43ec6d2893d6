/- Functions of the program as plain functions. Printed by a tool. -/
import Derived.Test.YtoamdmkakblnnaaDoorG1
set_option linter.unusedVariables false
set_option linter.unusedSimpArgs false
set_option maxRecDepth 100000
set_option maxHeartbeats 4000000
namespace Hd
open Go Hk
structure S_api_Section where
  Kind : Int
  Length : Int
  Grade : Int
  Speed : Int
  Slow : Int
  Station : Int
  Axles : Bool
structure S_api_Link where
  A : Int
  EndA : Int
  B : Int
  EndB : Int
structure S_api_Signal where
  Section : Int
  End : Int
structure S_api_Gate where
  Section : Int
  Close : Int
structure S_api_Net where
  Stations : List ByteArray
  Sections : List S_api_Section
  Links : List S_api_Link
  Signals : List S_api_Signal
  Gates : List S_api_Gate
structure S_line_end where
  section_ : Int
  end_ : Int
def S_line_end.keq (a b : S_line_end) : Bool := ieq a.section_ b.section_ && (ieq a.end_ b.end_ && (true))
structure S_api_Step where
  Section : Int
  In : Int
  Out : Int
structure S_api_Route where
  From : Int
  To : Int
  Steps : List S_api_Step
structure S_line_finder where
  net : S_api_Net
  routes : List S_api_Route
  paths : Int
  large : Bool
def internal_stringslite_HasSuffix : Option (Unit) :=
  ((some ()).bind fun (s2 : Unit) => (some ()))
def internal_stringslite_CutSuffix : Option (Unit) :=
  ((internal_stringslite_HasSuffix).bind fun (x2 : Unit) => (some ()))
def strings_CutSuffix : Option (Unit) :=
  ((internal_stringslite_CutSuffix).bind fun (x2 : Unit) => (some ()))
def strings_Split (p0 : ByteArray) : Option (List ByteArray) := ssplit 10 p0
def strings_Split_v2 (p0 : ByteArray) : Option (List ByteArray) := ssplit 32 p0
def line_Lines_b1 (i8 : Nat) (x12 : ByteArray) (s11 : List (List ByteArray)) : Option (Ctl (List (List ByteArray)) (Ctl (List (List ByteArray)) (Empty))) :=
  ((strings_Split_v2 x12).bind fun (x13 : List ByteArray) => ((gapp 24 s11 [x13]).bind fun (x14 : List (List ByteArray)) => (some (.go x14))))
def line_Lines : Option (List (List ByteArray)) :=
  ((strings_CutSuffix).bind fun (x6 : Unit) => ((strings_Split (⟨#[120]⟩ : ByteArray)).bind fun (x7 : List ByteArray) => ((forX line_Lines_b1 x7 ([] : List (List ByteArray))).bind fun c16 => Ctl.on c16 (fun s10 => (some s10)) (fun x_ => x_.elim))))
def line_Read : Option (S_api_Net) :=
  ((line_Lines).bind fun (x2 : List (List ByteArray)) => (some (S_api_Net.mk ([] : List ByteArray) ([] : List S_api_Section) ([] : List S_api_Link) ([] : List S_api_Signal) ([] : List S_api_Gate))))
def fishkeep1_awakeLine : Option (Unit) :=
  ((line_Read).bind fun (x2 : S_api_Net) => (some ()))
def line_name_b1 (i7 : Nat) (x11 : Int) (s10 : Unit) : Option (Ctl (Unit) (Ctl (Unit) (Bool))) :=
  ((ifb (decide (x11 < 97)) (some true) (some (decide (x11 > 122)))).bind fun (s12 : Bool) => (ifb s12 (some (.out (.out false))) (some (.go ()))))
def line_name (p0 : ByteArray) : Option (Bool) :=
  ((sbytes p0).bind fun (x6 : List Int) => ((forX line_name_b1 x6 ()).bind fun c15 => Ctl.on c15 (fun s9 => ((ifb (decide ((p0.size : Int) ≥ 1)) (some (decide ((p0.size : Int) ≤ 12))) (some false)).bind fun (s13 : Bool) => (some s13))) (fun r14 => (some r14))))
def slices_Index_string_string_b1 (p1 : ByteArray) (i4 : Nat) (x8 : ByteArray) (s7 : Unit) : Option (Ctl (Unit) (Ctl (Unit) (Int))) :=
  (ifb (seq p1 x8) (some (.out (.out (i4 : Int)))) (some (.go ())))
def slices_Index_string_string (p0 : List ByteArray) (p1 : ByteArray) : Option (Int) :=
  ((forX (slices_Index_string_string_b1 p1) p0 ()).bind fun c10 => Ctl.on c10 (fun s6 => (some (-1))) (fun r9 => (some r9)))
def slices_Contains_string_string (p0 : List ByteArray) (p1 : ByteArray) : Option (Bool) :=
  ((slices_Index_string_string p0 p1).bind fun (x2 : Int) => (some (decide (x2 ≥ 0))))
def line_ends (p0 : Int) : Option (Int) :=
  (ifb (p0 == 1) (some 2) (ifb (p0 == 2) (some 3) (ifb (p0 == 3) (some 4) (some 0))))
def line_within (p0 : Int) (p1 : Int) (p2 : Int) : Option (Bool) :=
  ((ifb (decide (p0 ≥ p1)) (some (decide (p0 ≤ p2))) (some false)).bind fun (s2 : Bool) => (some s2))
def line_checkSection (p0 : S_api_Section) (p1 : Int) : Option (Int) :=
  ((line_ends p0.Kind).bind fun (x11 : Int) => (ifb (x11 == 0) (some 1) (((line_within p0.Length 10 3000).bind fun (x16 : Bool) => (ifb (!x16) (some true) ((line_within p0.Grade (-40) 40).bind fun (x17 : Bool) => (ifb (!x17) (some true) ((line_within p0.Speed 300 6000).bind fun (x18 : Bool) => (some (!x18))))))).bind fun (s15 : Bool) => (ifb s15 (some 2) ((ifb (p0.Kind == 2) ((line_within p0.Slow 300 p0.Speed).bind fun (x23 : Bool) => (ifb (!x23) (some true) (ifb (p0.Kind == 1) ((line_within p0.Station 0 p1).bind fun (x24 : Bool) => (some (!x24))) (some false)))) (ifb (p0.Kind == 1) ((line_within p0.Station 0 p1).bind fun (x25 : Bool) => (some (!x25))) (some false))).bind fun (s22 : Bool) => (ifb s22 (some 2) ((ifb (p0.Slow != 0) (ifb (!(p0.Kind == 2)) (some true) (ifb (p0.Station != 0) (ifb (!(p0.Kind == 1)) (some true) (ifb (p0.Grade != 0) (some (p0.Kind == 3)) (some false))) (ifb (p0.Grade != 0) (some (p0.Kind == 3)) (some false)))) (ifb (p0.Station != 0) (ifb (!(p0.Kind == 1)) (some true) (ifb (p0.Grade != 0) (some (p0.Kind == 3)) (some false))) (ifb (p0.Grade != 0) (some (p0.Kind == 3)) (some false)))).bind fun (s26 : Bool) => (ifb s26 (some 1) (some 0)))))))))
def line_has (p0 : S_api_Net) (p1 : S_line_end) : Option (Bool) :=
  (((line_within p1.section_ 0 (w64 (((p0.Sections.length) : Int) - 1))).bind fun (x11 : Bool) => (ifb x11 ((idx p0.Sections p1.section_).bind fun (x12 : S_api_Section) => ((line_ends x12.Kind).bind fun (x13 : Int) => ((line_within p1.end_ 0 (w64 (x13 - 1))).bind fun (x14 : Bool) => (some x14)))) (some false))).bind fun (s10 : Bool) => (some s10))
def cmp_isNaN_int (p0 : Int) : Option (Bool) :=
  (some (p0 != p0))
def cmp_Compare_int (p0 : Int) (p1 : Int) : Option (Int) :=
  ((cmp_isNaN_int p0).bind fun (x3 : Bool) => ((cmp_isNaN_int p1).bind fun (x4 : Bool) => (ifb x3 (ifb x4 (some 0) (some (-1))) (ifb x4 (some 1) (ifb (decide (p0 < p1)) (some (-1)) (ifb (decide (p0 > p1)) (some 1) (some 0)))))))
def cmp_Or_int_b1 (i4 : Nat) (x8 : Int) (s7 : Unit) : Option (Ctl (Unit) (Ctl (Unit) (Int))) :=
  (ifb (x8 != 0) (some (.out (.out x8))) (some (.go ())))
def cmp_Or_int (p0 : List Int) : Option (Int) :=
  ((forX cmp_Or_int_b1 p0 ()).bind fun c10 => Ctl.on c10 (fun s6 => (some 0)) (fun r9 => (some r9)))
def line_checkLinks_b1 (p0 : S_api_Net) (i4 : Nat) (x8 : S_api_Link) (s7 : (List (S_line_end × Bool))) : Option (Ctl ((List (S_line_end × Bool))) (Ctl ((List (S_line_end × Bool))) (Int))) :=
  ((some (x8.A, x8.EndA, x8.B, x8.EndB)).bind fun (s9 : Int × Int × Int × Int) => (((line_has p0 (S_line_end.mk s9.1 s9.2.1)).bind fun (x13 : Bool) => (ifb (!x13) (some true) ((line_has p0 (S_line_end.mk s9.2.2.1 s9.2.2.2)).bind fun (x14 : Bool) => (some (!x14))))).bind fun (s12 : Bool) => (ifb s12 (some (.out (.out 3))) (ifb (x8.A == x8.B) (some (.out (.out 1))) (ifb (decide (x8.A > x8.B)) (some (.out (.out 5))) (((ifb (decide ((i4 : Int) > 0)) ((idx p0.Links (w64 ((i4 : Int) - 1))).bind fun (x20 : S_api_Link) => ((cmp_Compare_int x20.A x8.A).bind fun (x21 : Int) => ((cmp_Compare_int x20.EndA x8.EndA).bind fun (x22 : Int) => ((cmp_Or_int [x21, x22]).bind fun (x23 : Int) => (ifb (decide (x23 ≥ 0)) (some (.out 5)) (some (.go ()))))))) (some (.go ()))) : Option (Ctl (Unit) (Int))).bind fun c26 => Ctl.on c26 (fun s19 => ((ifb ((mfind S_line_end.keq (S_line_end.mk s9.1 s9.2.1) s7).getD false) (some true) (some ((mfind S_line_end.keq (S_line_end.mk s9.2.2.1 s9.2.2.2) s7).getD false))).bind fun (s24 : Bool) => (ifb s24 (some (.out (.out 6))) (some (.go (mset S_line_end.keq (S_line_end.mk s9.2.2.1 s9.2.2.2) true (mset S_line_end.keq (S_line_end.mk s9.1 s9.2.1) true s7))))))) (fun r25 => (some (.out (.out r25))))))))))
def line_checkLinks (p0 : S_api_Net) : Option (Int) :=
  ((forX (line_checkLinks_b1 p0) p0.Links ([] : List (S_line_end × Bool))).bind fun c28 => Ctl.on c28 (fun s6 => (some 0)) (fun r27 => (some r27)))
def line_joined_b1 (p1 : S_line_end) (i4 : Nat) (x8 : S_api_Link) (s7 : Unit) : Option (Ctl (Unit) (Ctl (Unit) (Bool × S_line_end))) :=
  ((ifb (x8.A == p1.section_) (some (x8.EndA == p1.end_)) (some false)).bind fun (s9 : Bool) => (ifb s9 (some (.out (.out (true, (S_line_end.mk x8.B x8.EndB))))) ((ifb (x8.B == p1.section_) (some (x8.EndB == p1.end_)) (some false)).bind fun (s10 : Bool) => (ifb s10 (some (.out (.out (true, (S_line_end.mk x8.A x8.EndA))))) (some (.go ()))))))
def line_joined (p0 : S_api_Net) (p1 : S_line_end) : Option (Bool × S_line_end) :=
  ((forX (line_joined_b1 p1) p0.Links ()).bind fun c12 => Ctl.on c12 (fun s6 => (some (false, (S_line_end.mk 0 0)))) (fun r11 => (some r11)))
def line_checkSignals_b1 (p0 : S_api_Net) (i4 : Nat) (x8 : S_api_Signal) (s7 : Unit) : Option (Ctl (Unit) (Ctl (Unit) (Int))) :=
  ((line_has p0 (S_line_end.mk x8.Section x8.End)).bind fun (x9 : Bool) => (ifb (!x9) (some (.out (.out 3))) ((line_joined p0 (S_line_end.mk x8.Section x8.End)).bind fun (x10 : Bool × S_line_end) => ((ifb (!x10.1) (some true) ((idx p0.Sections x8.Section).bind fun (x13 : S_api_Section) => (some (x13.Kind != 1)))).bind fun (s12 : Bool) => (ifb s12 (some (.out (.out 1))) (ifb (decide ((i4 : Int) > 0)) ((idx p0.Signals (w64 ((i4 : Int) - 1))).bind fun (x14 : S_api_Signal) => ((cmp_Compare_int x14.Section x8.Section).bind fun (x15 : Int) => ((cmp_Compare_int x14.End x8.End).bind fun (x16 : Int) => ((cmp_Or_int [x15, x16]).bind fun (x17 : Int) => (ifb (decide (x17 ≥ 0)) (some (.out (.out 5))) (some (.go ()))))))) (some (.go ()))))))))
def line_checkSignals (p0 : S_api_Net) : Option (Int) :=
  ((forX (line_checkSignals_b1 p0) p0.Signals ()).bind fun c19 => Ctl.on c19 (fun s6 => (some 0)) (fun r18 => (some r18)))
def line_checkGates_b1 (p0 : S_api_Net) (i4 : Nat) (x8 : S_api_Gate) (s7 : Unit) : Option (Ctl (Unit) (Ctl (Unit) (Int))) :=
  ((line_within x8.Section 0 (w64 (((p0.Sections.length) : Int) - 1))).bind fun (x9 : Bool) => (ifb (!x9) (some (.out (.out 3))) ((idx p0.Sections x8.Section).bind fun (x10 : S_api_Section) => (ifb (x10.Kind != 1) (some (.out (.out 1))) ((line_within x8.Close 1 12).bind fun (x11 : Bool) => (ifb (!x11) (some (.out (.out 2))) ((ifb (decide ((i4 : Int) > 0)) ((idx p0.Gates (w64 ((i4 : Int) - 1))).bind fun (x14 : S_api_Gate) => (some (decide (x8.Section ≤ x14.Section)))) (some false)).bind fun (s13 : Bool) => (ifb s13 (some (.out (.out 5))) (some (.go ()))))))))))
def line_checkGates (p0 : S_api_Net) : Option (Int) :=
  ((forX (line_checkGates_b1 p0) p0.Gates ()).bind fun c16 => Ctl.on c16 (fun s6 => (some 0)) (fun r15 => (some r15)))
def line_Check_b1 (p0 : S_api_Net) (i12 : Nat) (x16 : ByteArray) (s15 : Unit) : Option (Ctl (Unit) (Ctl (Unit) (Int))) :=
  ((line_name x16).bind fun (x17 : Bool) => (ifb (!x17) (some (.out (.out 1))) ((gcut p0.Stations 0 (i12 : Int)).bind fun (x18 : List ByteArray) => ((slices_Contains_string_string x18 x16).bind fun (x19 : Bool) => (ifb x19 (some (.out (.out 6))) (some (.go ())))))))
def line_Check_b2 (p0 : S_api_Net) (i20 : Nat) (x24 : S_api_Section) (s23 : Unit) : Option (Ctl (Unit) (Ctl (Unit) (Int))) :=
  ((line_checkSection x24 ((p0.Stations.length) : Int)).bind fun (x25 : Int) => (ifb (x25 != 0) (some (.out (.out x25))) (some (.go ()))))
def line_Check (p0 : S_api_Net) : Option (Int) :=
  (ifb (((p0.Sections.length) : Int) == 0) (some 1) ((ifb (decide (((p0.Stations.length) : Int) > 12)) (some true) (ifb (decide (((p0.Sections.length) : Int) > 60)) (some true) (ifb (decide (((p0.Links.length) : Int) > 90)) (some true) (ifb (decide (((p0.Signals.length) : Int) > 40)) (some true) (some (decide (((p0.Gates.length) : Int) > 8))))))).bind fun (s11 : Bool) => (ifb s11 (some 4) ((forX (line_Check_b1 p0) p0.Stations ()).bind fun c32 => Ctl.on c32 (fun s14 => ((forX (line_Check_b2 p0) p0.Sections ()).bind fun c30 => Ctl.on c30 (fun s22 => ((line_checkLinks p0).bind fun (x26 : Int) => (ifb (x26 != 0) (some x26) ((line_checkSignals p0).bind fun (x27 : Int) => (ifb (x27 != 0) (some x27) ((line_checkGates p0).bind fun (x28 : Int) => (ifb (x28 != 0) (some x28) (some 0)))))))) (fun r29 => (some r29)))) (fun r31 => (some r31))))))
def line_walk (p0 : S_api_Net) (p1 : S_line_end) : Option (List ByteArray × List S_api_Section × List S_api_Link × List S_api_Signal × List S_api_Gate × Int × Int) :=
  (some (p0.Stations, p0.Sections, p0.Links, p0.Signals, p0.Gates, p1.section_, p1.end_))
def line_outs (p0 : Int) (p1 : Int) : Option (List Int) :=
  ((ifb (p0 == 2) (some (p1 == 0)) (some false)).bind fun (s2 : Bool) => (ifb s2 (some [1, 2]) (ifb (p0 == 2) (some [0]) (some [ixor .i64 p1 1]))))
def line_stands_1 (p0 : S_api_Step) (p1 : Option Int) : Option (Bool) :=
  ((p1).bind fun (x2 : Int) => (some (p0.Section == x2)))
def slices_IndexFunc_api_Step_api_Step_b1 (p1 : Option Int) (i4 : Nat) (x8 : S_api_Step) (s7 : Unit) : Option (Ctl (Unit) (Ctl (Unit) (Int))) :=
  ((line_stands_1 x8 p1).bind fun (x9 : Bool) => (ifb x9 (some (.out (.out (i4 : Int)))) (some (.go ()))))
def slices_IndexFunc_api_Step_api_Step (p0 : List S_api_Step) (p1 : Option Int) : Option (Int) :=
  ((forX (slices_IndexFunc_api_Step_api_Step_b1 p1) p0 ()).bind fun c11 => Ctl.on c11 (fun s6 => (some (-1))) (fun r10 => (some r10)))
def slices_ContainsFunc_api_Step_api_Step (p0 : List S_api_Step) (p1 : Option Int) : Option (Bool) :=
  ((slices_IndexFunc_api_Step_api_Step p0 p1).bind fun (x2 : Int) => (some (decide (x2 ≥ 0))))
def line_stands (p0 : List S_api_Step) (p1 : Int) : Option (Bool) :=
  ((slices_ContainsFunc_api_Step_api_Step p0 (some p1)).bind fun (x2 : Bool) => (some x2))
def line_finder_count (p0 : List ByteArray) (p1 : List S_api_Section) (p2 : List S_api_Link) (p3 : List S_api_Signal) (p4 : List S_api_Gate) (p5 : List S_api_Route) (p6 : Int) (p7 : Bool) : Option (List ByteArray × List S_api_Section × List S_api_Link × List S_api_Signal × List S_api_Gate × Int × Bool) :=
  (ifb p7 (some (p0, p1, p2, p3, p4, w64 (p6 + 1), true)) (some (p0, p1, p2, p3, p4, w64 (p6 + 1), decide ((w64 (p6 + 1)) > 80))))
def slices_Clone_api_Step_api_Step_v2 (p0 : Option (List S_api_Step)) : Option (List S_api_Step) :=
  (ifb p0.isNone (some ([] : List S_api_Step)) ((gapp 24 ([] : List S_api_Step) (p0.getD [])).bind fun (x2 : List S_api_Step) => (some x2)))
def slices_Clone_api_Step_api_Step (p0 : List S_api_Step) : Option (List S_api_Step) := slices_Clone_api_Step_api_Step_v2 (some p0)
def slices_Index_api_Signal_api_Signal_b1 (p1 : S_api_Signal) (i4 : Nat) (x8 : S_api_Signal) (s7 : Unit) : Option (Ctl (Unit) (Ctl (Unit) (Int))) :=
  (ifb (ieq p1.Section x8.Section && (ieq p1.End x8.End && true)) (some (.out (.out (i4 : Int)))) (some (.go ())))
def slices_Index_api_Signal_api_Signal (p0 : List S_api_Signal) (p1 : S_api_Signal) : Option (Int) :=
  ((forX (slices_Index_api_Signal_api_Signal_b1 p1) p0 ()).bind fun c10 => Ctl.on c10 (fun s6 => (some (-1))) (fun r9 => (some r9)))
def line_signal (p0 : S_api_Net) (p1 : S_line_end) : Option (Int) :=
  ((slices_Index_api_Signal_api_Signal p0.Signals (S_api_Signal.mk p1.section_ p1.end_)).bind fun (x2 : Int) => (some x2))
def it0_line_walk_1_b1 (x3 : Bool × S_line_end) (x6 : List Int) (s7 : Int) : Option (Option ((S_api_Step) × Option (Int))) :=
  (ifb (decide (s7 < ((x6.length) : Int))) ((idx x6 s7).bind fun (x8 : Int) => (some (some ((S_api_Step.mk x3.2.section_ x3.2.end_ x8), ((some ()).bind fun (_ : Unit) => (some (w64 (s7 + 1)))))))) (some none))
def it0_line_walk_1_N (n_ : Nat) (p0 : Option S_api_Net) (p1 : Option S_line_end) : Option (List (S_api_Step)) :=
  ((p0).bind fun (x1 : S_api_Net) => ((p1).bind fun (x2 : S_line_end) => ((line_joined x1 x2).bind fun (x3 : Bool × S_line_end) => (ifb (!x3.1) (some []) ((p0).bind fun (x4 : S_api_Net) => ((idx x4.Sections x3.2.section_).bind fun (x5 : S_api_Section) => ((line_outs x5.Kind x3.2.end_).bind fun (x6 : List Int) => (collectY (it0_line_walk_1_b1 x3 x6) n_ 0))))))))
def it0_line_walk_1 (p0 : Option S_api_Net) (p1 : Option S_line_end) : Option (List (S_api_Step)) := it0_line_walk_1_N bigN p0 p1
def line_finder_grow_v2_b1 (rec_ : Int → S_line_end → List S_api_Step → List ByteArray → List S_api_Section → List S_api_Link → List S_api_Signal → List S_api_Gate → List S_api_Route → Int → Bool → Option (List ByteArray × List S_api_Section × List S_api_Link × List S_api_Signal × List S_api_Gate × Int × Bool × List S_api_Route)) (p0 : Int) (p2 : List S_api_Step) (x11 : S_api_Signal) (_ : Nat) (e14 : S_api_Step) (s16 : List ByteArray × List S_api_Section × List S_api_Link × List S_api_Signal × List S_api_Gate × Int × Bool × List S_api_Route) : Option (Ctl (List ByteArray × List S_api_Section × List S_api_Link × List S_api_Signal × List S_api_Gate × Int × Bool × List S_api_Route) (Ctl (List ByteArray × List S_api_Section × List S_api_Link × List S_api_Signal × List S_api_Gate × Int × Bool × List S_api_Route) (List ByteArray × List S_api_Section × List S_api_Link × List S_api_Signal × List S_api_Gate × Int × Bool × List S_api_Route))) :=
  (ifb s16.2.2.2.2.2.2.1 (some (.out (.out (s16.1, s16.2.1, s16.2.2.1, s16.2.2.2.1, s16.2.2.2.2.1, s16.2.2.2.2.2.1, s16.2.2.2.2.2.2.1, s16.2.2.2.2.2.2.2)))) ((ifb (e14.Section == x11.Section) (some true) ((line_stands p2 e14.Section).bind fun (x19 : Bool) => (some x19))).bind fun (s18 : Bool) => (ifb s18 ((line_finder_count s16.1 s16.2.1 s16.2.2.1 s16.2.2.2.1 s16.2.2.2.2.1 s16.2.2.2.2.2.2.2 s16.2.2.2.2.2.1 s16.2.2.2.2.2.2.1).bind fun (x20 : List ByteArray × List S_api_Section × List S_api_Link × List S_api_Signal × List S_api_Gate × Int × Bool) => (some (.out (.out (x20.1, x20.2.1, x20.2.2.1, x20.2.2.2.1, x20.2.2.2.2.1, x20.2.2.2.2.2.1, x20.2.2.2.2.2.2, s16.2.2.2.2.2.2.2))))) (((slices_Clone_api_Step_api_Step p2).bind fun (x24 : List S_api_Step) => ((gapp 24 x24 [e14]).bind fun (x25 : List S_api_Step) => (some x25))).bind fun (s23 : List S_api_Step) => (ifb (decide (((s23.length) : Int) > 16)) (some (.out (.out (s16.1, s16.2.1, s16.2.2.1, s16.2.2.2.1, s16.2.2.2.2.1, s16.2.2.2.2.2.1, true, s16.2.2.2.2.2.2.2)))) ((line_signal (S_api_Net.mk s16.1 s16.2.1 s16.2.2.1 s16.2.2.2.1 s16.2.2.2.2.1) (S_line_end.mk e14.Section e14.Out)).bind fun (x26 : Int) => (((line_joined (S_api_Net.mk s16.1 s16.2.1 s16.2.2.1 s16.2.2.2.1 s16.2.2.2.2.1) (S_line_end.mk e14.Section e14.Out)).bind fun (x29 : Bool × S_line_end) => (some x29.1)).bind fun (s28 : Bool) => ((ifb s28 (some (decide (x26 < 0))) (some false)).bind fun (s30 : Bool) => (ifb s30 ((rec_ p0 (S_line_end.mk e14.Section e14.Out) s23 s16.1 s16.2.1 s16.2.2.1 s16.2.2.2.1 s16.2.2.2.2.1 s16.2.2.2.2.2.2.2 s16.2.2.2.2.2.1 s16.2.2.2.2.2.2.1).bind fun (x31 : List ByteArray × List S_api_Section × List S_api_Link × List S_api_Signal × List S_api_Gate × Int × Bool × List S_api_Route) => (some (.go (x31.1, x31.2.1, x31.2.2.1, x31.2.2.2.1, x31.2.2.2.2.1, x31.2.2.2.2.2.1, x31.2.2.2.2.2.2.1, x31.2.2.2.2.2.2.2)))) ((gapp 40 s16.2.2.2.2.2.2.2 [(S_api_Route.mk p0 x26 s23)]).bind fun (x32 : List S_api_Route) => ((line_finder_count s16.1 s16.2.1 s16.2.2.1 s16.2.2.2.1 s16.2.2.2.2.1 x32 s16.2.2.2.2.2.1 s16.2.2.2.2.2.2.1).bind fun (x33 : List ByteArray × List S_api_Section × List S_api_Link × List S_api_Signal × List S_api_Gate × Int × Bool) => (some (.go (x33.1, x33.2.1, x33.2.2.1, x33.2.2.2.1, x33.2.2.2.2.1, x33.2.2.2.2.2.1, x33.2.2.2.2.2.2, x32))))))))))))))
def line_finder_grow_v2_step (rec_ : Int → S_line_end → List S_api_Step → List ByteArray → List S_api_Section → List S_api_Link → List S_api_Signal → List S_api_Gate → List S_api_Route → Int → Bool → Option (List ByteArray × List S_api_Section × List S_api_Link × List S_api_Signal × List S_api_Gate × Int × Bool × List S_api_Route)) (p0 : Int) (p1 : S_line_end) (p2 : List S_api_Step) (p3 : List ByteArray) (p4 : List S_api_Section) (p5 : List S_api_Link) (p6 : List S_api_Signal) (p7 : List S_api_Gate) (p8 : List S_api_Route) (p9 : Int) (p10 : Bool) : Option (List ByteArray × List S_api_Section × List S_api_Link × List S_api_Signal × List S_api_Gate × Int × Bool × List S_api_Route) :=
  ((idx p6 p0).bind fun (x11 : S_api_Signal) => ((line_walk (S_api_Net.mk p3 p4 p5 p6 p7) p1).bind fun (x12 : List ByteArray × List S_api_Section × List S_api_Link × List S_api_Signal × List S_api_Gate × Int × Int) => ((it0_line_walk_1 (some (S_api_Net.mk x12.1 x12.2.1 x12.2.2.1 x12.2.2.2.1 x12.2.2.2.2.1)) (some (S_line_end.mk x12.2.2.2.2.2.1 x12.2.2.2.2.2.2))).bind fun (x13 : List (S_api_Step)) => ((forC (line_finder_grow_v2_b1 rec_ p0 p2 x11) x13 (p3, p4, p5, p6, p7, p9, p10, p8)).bind fun c35 => Ctl.on c35 (fun s15 => (some (s15.1, s15.2.1, s15.2.2.1, s15.2.2.2.1, s15.2.2.2.2.1, s15.2.2.2.2.2.1, s15.2.2.2.2.2.2.1, s15.2.2.2.2.2.2.2))) (fun r34 => (some (r34.1, r34.2.1, r34.2.2.1, r34.2.2.2.1, r34.2.2.2.2.1, r34.2.2.2.2.2.1, r34.2.2.2.2.2.2.1, r34.2.2.2.2.2.2.2)))))))
def line_finder_grow_v2_n : Nat → Int → S_line_end → List S_api_Step → List ByteArray → List S_api_Section → List S_api_Link → List S_api_Signal → List S_api_Gate → List S_api_Route → Int → Bool → Option (List ByteArray × List S_api_Section × List S_api_Link × List S_api_Signal × List S_api_Gate × Int × Bool × List S_api_Route)
  | 0 => fun _ _ _ _ _ _ _ _ _ _ _ => none
  | n + 1 => line_finder_grow_v2_step (line_finder_grow_v2_n n)
def line_finder_grow_v2 : Int → S_line_end → List S_api_Step → List ByteArray → List S_api_Section → List S_api_Link → List S_api_Signal → List S_api_Gate → List S_api_Route → Int → Bool → Option (List ByteArray × List S_api_Section × List S_api_Link × List S_api_Signal × List S_api_Gate × Int × Bool × List S_api_Route) := line_finder_grow_v2_n bigN
def line_finder_grow_b1 (p0 : Int) (p1 : List S_api_Step) (x6 : S_api_Signal) (_ : Nat) (e9 : S_api_Step) (s11 : List ByteArray × List S_api_Section × List S_api_Link × List S_api_Signal × List S_api_Gate × Int × Bool × List S_api_Route) : Option (Ctl (List ByteArray × List S_api_Section × List S_api_Link × List S_api_Signal × List S_api_Gate × Int × Bool × List S_api_Route) (Ctl (List ByteArray × List S_api_Section × List S_api_Link × List S_api_Signal × List S_api_Gate × Int × Bool × List S_api_Route) (List ByteArray × List S_api_Section × List S_api_Link × List S_api_Signal × List S_api_Gate × Int × Bool × List S_api_Route))) :=
  (ifb s11.2.2.2.2.2.2.1 (some (.out (.out (s11.1, s11.2.1, s11.2.2.1, s11.2.2.2.1, s11.2.2.2.2.1, s11.2.2.2.2.2.1, s11.2.2.2.2.2.2.1, s11.2.2.2.2.2.2.2)))) ((ifb (e9.Section == x6.Section) (some true) ((line_stands p1 e9.Section).bind fun (x14 : Bool) => (some x14))).bind fun (s13 : Bool) => (ifb s13 ((line_finder_count s11.1 s11.2.1 s11.2.2.1 s11.2.2.2.1 s11.2.2.2.2.1 s11.2.2.2.2.2.2.2 s11.2.2.2.2.2.1 s11.2.2.2.2.2.2.1).bind fun (x15 : List ByteArray × List S_api_Section × List S_api_Link × List S_api_Signal × List S_api_Gate × Int × Bool) => (some (.out (.out (x15.1, x15.2.1, x15.2.2.1, x15.2.2.2.1, x15.2.2.2.2.1, x15.2.2.2.2.2.1, x15.2.2.2.2.2.2, s11.2.2.2.2.2.2.2))))) (((slices_Clone_api_Step_api_Step p1).bind fun (x19 : List S_api_Step) => ((gapp 24 x19 [e9]).bind fun (x20 : List S_api_Step) => (some x20))).bind fun (s18 : List S_api_Step) => (ifb (decide (((s18.length) : Int) > 16)) (some (.out (.out (s11.1, s11.2.1, s11.2.2.1, s11.2.2.2.1, s11.2.2.2.2.1, s11.2.2.2.2.2.1, true, s11.2.2.2.2.2.2.2)))) ((line_signal (S_api_Net.mk s11.1 s11.2.1 s11.2.2.1 s11.2.2.2.1 s11.2.2.2.2.1) (S_line_end.mk e9.Section e9.Out)).bind fun (x21 : Int) => (((line_joined (S_api_Net.mk s11.1 s11.2.1 s11.2.2.1 s11.2.2.2.1 s11.2.2.2.2.1) (S_line_end.mk e9.Section e9.Out)).bind fun (x24 : Bool × S_line_end) => (some x24.1)).bind fun (s23 : Bool) => ((ifb s23 (some (decide (x21 < 0))) (some false)).bind fun (s25 : Bool) => (ifb s25 ((line_finder_grow_v2 p0 (S_line_end.mk e9.Section e9.Out) s18 s11.1 s11.2.1 s11.2.2.1 s11.2.2.2.1 s11.2.2.2.2.1 s11.2.2.2.2.2.2.2 s11.2.2.2.2.2.1 s11.2.2.2.2.2.2.1).bind fun (x26 : List ByteArray × List S_api_Section × List S_api_Link × List S_api_Signal × List S_api_Gate × Int × Bool × List S_api_Route) => (some (.go (x26.1, x26.2.1, x26.2.2.1, x26.2.2.2.1, x26.2.2.2.2.1, x26.2.2.2.2.2.1, x26.2.2.2.2.2.2.1, x26.2.2.2.2.2.2.2)))) ((gapp 40 s11.2.2.2.2.2.2.2 [(S_api_Route.mk p0 x21 s18)]).bind fun (x27 : List S_api_Route) => ((line_finder_count s11.1 s11.2.1 s11.2.2.1 s11.2.2.2.1 s11.2.2.2.2.1 x27 s11.2.2.2.2.2.1 s11.2.2.2.2.2.2.1).bind fun (x28 : List ByteArray × List S_api_Section × List S_api_Link × List S_api_Signal × List S_api_Gate × Int × Bool) => (some (.go (x28.1, x28.2.1, x28.2.2.1, x28.2.2.2.1, x28.2.2.2.2.1, x28.2.2.2.2.2.1, x28.2.2.2.2.2.2, x27))))))))))))))
def line_finder_grow (p0 : Int) (p1 : List S_api_Step) (p2 : S_line_end) (p3 : List ByteArray) (p4 : List S_api_Section) (p5 : List S_api_Link) (p6 : List S_api_Signal) (p7 : List S_api_Gate) (p8 : List S_api_Route) (p9 : Int) (p10 : Bool) : Option (List ByteArray × List S_api_Section × List S_api_Link × List S_api_Signal × List S_api_Gate × Int × Bool × List S_api_Route) :=
  ((idx p6 p0).bind fun (x6 : S_api_Signal) => ((line_walk (S_api_Net.mk p3 p4 p5 p6 p7) p2).bind fun (x7 : List ByteArray × List S_api_Section × List S_api_Link × List S_api_Signal × List S_api_Gate × Int × Int) => ((it0_line_walk_1 (some (S_api_Net.mk x7.1 x7.2.1 x7.2.2.1 x7.2.2.2.1 x7.2.2.2.2.1)) (some (S_line_end.mk x7.2.2.2.2.2.1 x7.2.2.2.2.2.2))).bind fun (x8 : List (S_api_Step)) => ((forC (line_finder_grow_b1 p0 p1 x6) x8 (p3, p4, p5, p6, p7, p9, p10, p8)).bind fun c30 => Ctl.on c30 (fun s10 => (some (s10.1, s10.2.1, s10.2.2.1, s10.2.2.2.1, s10.2.2.2.2.1, s10.2.2.2.2.2.1, s10.2.2.2.2.2.2.1, s10.2.2.2.2.2.2.2))) (fun r29 => (some (r29.1, r29.2.1, r29.2.2.1, r29.2.2.2.1, r29.2.2.2.2.1, r29.2.2.2.2.2.1, r29.2.2.2.2.2.2.1, r29.2.2.2.2.2.2.2)))))))
def line_routes_b1 (i4 : Nat) (x8 : S_api_Signal) (s7 : List ByteArray × List S_api_Section × List S_api_Link × List S_api_Signal × List S_api_Gate × Int × Bool × List S_api_Route) : Option (Ctl (List ByteArray × List S_api_Section × List S_api_Link × List S_api_Signal × List S_api_Gate × Int × Bool × List S_api_Route) (Ctl (List ByteArray × List S_api_Section × List S_api_Link × List S_api_Signal × List S_api_Gate × Int × Bool × List S_api_Route) (Empty))) :=
  ((line_finder_grow (i4 : Int) ([] : List S_api_Step) (S_line_end.mk x8.Section x8.End) s7.1 s7.2.1 s7.2.2.1 s7.2.2.2.1 s7.2.2.2.2.1 s7.2.2.2.2.2.2.2 s7.2.2.2.2.2.1 s7.2.2.2.2.2.2.1).bind fun (x9 : List ByteArray × List S_api_Section × List S_api_Link × List S_api_Signal × List S_api_Gate × Int × Bool × List S_api_Route) => (some (.go (x9.1, x9.2.1, x9.2.2.1, x9.2.2.2.1, x9.2.2.2.2.1, x9.2.2.2.2.2.1, x9.2.2.2.2.2.2.1, x9.2.2.2.2.2.2.2))))
def line_routes (p0 : S_api_Net) : Option (Int × List S_api_Route) :=
  ((forX line_routes_b1 p0.Signals (p0.Stations, p0.Sections, p0.Links, p0.Signals, p0.Gates, 0, false, ([] : List S_api_Route))).bind fun c11 => Ctl.on c11 (fun s6 => (ifb s6.2.2.2.2.2.2.1 (some (4, ([] : List S_api_Route))) (some (0, s6.2.2.2.2.2.2.2)))) (fun x_ => x_.elim))
def line_Routes (p0 : S_api_Net) : Option (Int × List S_api_Route) :=
  ((line_Check p0).bind fun (x3 : Int) => (ifb (x3 != 0) (some (x3, ([] : List S_api_Route))) ((line_routes p0).bind fun (x4 : Int × List S_api_Route) => (some (x4.1, x4.2)))))
def slices_Index_int_int_b1 (p1 : Int) (i4 : Nat) (x8 : Int) (s7 : Unit) : Option (Ctl (Unit) (Ctl (Unit) (Int))) :=
  (ifb (p1 == x8) (some (.out (.out (i4 : Int)))) (some (.go ())))
def slices_Index_int_int (p0 : List Int) (p1 : Int) : Option (Int) :=
  ((forX (slices_Index_int_int_b1 p1) p0 ()).bind fun c10 => Ctl.on c10 (fun s6 => (some (-1))) (fun r9 => (some r9)))
def slices_Contains_int_int (p0 : List Int) (p1 : Int) : Option (Bool) :=
  ((slices_Index_int_int p0 p1).bind fun (x2 : Int) => (some (decide (x2 ≥ 0))))
def line_CheckPath_b1 (p0 : S_api_Net) (p1 : List S_api_Step) (i6 : Nat) (x10 : S_api_Step) (s9 : (List (Int × Bool))) : Option (Ctl ((List (Int × Bool))) (Ctl ((List (Int × Bool))) (Int))) :=
  (((line_has p0 (S_line_end.mk x10.Section x10.In)).bind fun (x14 : Bool) => (ifb (!x14) (some true) ((line_has p0 (S_line_end.mk x10.Section x10.Out)).bind fun (x15 : Bool) => (some (!x15))))).bind fun (s13 : Bool) => (ifb s13 (some (.out (.out 3))) ((idx p0.Sections x10.Section).bind fun (x16 : S_api_Section) => ((line_outs x16.Kind x10.In).bind fun (x17 : List Int) => ((slices_Contains_int_int x17 x10.Out).bind fun (x18 : Bool) => (ifb (!x18) (some (.out (.out 1))) (((ifb (decide ((i6 : Int) > 0)) ((idx p1 (w64 ((i6 : Int) - 1))).bind fun (x23 : S_api_Step) => ((line_joined p0 (S_line_end.mk x23.Section x23.Out)).bind fun (x24 : Bool × S_line_end) => ((ifb (!x24.1) (some true) (some (!(ieq x24.2.section_ x10.Section && (ieq x24.2.end_ x10.In && true))))).bind fun (s25 : Bool) => (ifb s25 (some (.out 5)) (some (.go ())))))) (some (.go ()))) : Option (Ctl (Unit) (Int))).bind fun c27 => Ctl.on c27 (fun s22 => (ifb ((mfind ieq x10.Section s9).getD false) (some (.out (.out 6))) (some (.go (mset ieq x10.Section true s9))))) (fun r26 => (some (.out (.out r26)))))))))))
def line_CheckPath (p0 : S_api_Net) (p1 : List S_api_Step) : Option (Int) :=
  ((line_Check p0).bind fun (x5 : Int) => (ifb (x5 != 0) (some x5) (ifb (decide (((p1.length) : Int) > 60)) (some 4) ((forX (line_CheckPath_b1 p0 p1) p1 ([] : List (Int × Bool))).bind fun c29 => Ctl.on c29 (fun s8 => (some 0)) (fun r28 => (some r28))))))
def line_checkEnd (p0 : S_api_Net) (p1 : S_line_end) : Option (Int) :=
  ((line_Check p0).bind fun (x3 : Int) => (ifb (x3 != 0) (some x3) ((line_has p0 p1).bind fun (x4 : Bool) => (ifb (!x4) (some 3) (some 0)))))
def line_Next (p0 : S_api_Net) (p1 : Int) (p2 : Int) : Option (Int × Int × Int) :=
  ((line_checkEnd p0 (S_line_end.mk p1 p2)).bind fun (x3 : Int) => (ifb (x3 != 0) (some (0, 0, x3)) ((line_joined p0 (S_line_end.mk p1 p2)).bind fun (x4 : Bool × S_line_end) => (ifb (!x4.1) (some (0, 0, 9)) (some (x4.2.section_, x4.2.end_, 0))))))
def line_SignalAt (p0 : S_api_Net) (p1 : Int) (p2 : Int) : Option (Int × Int) :=
  ((line_checkEnd p0 (S_line_end.mk p1 p2)).bind fun (x3 : Int) => (ifb (x3 != 0) (some (0, x3)) ((line_signal p0 (S_line_end.mk p1 p2)).bind fun (x4 : Int) => (ifb (decide (x4 < 0)) (some (0, 9)) (some (x4, 0))))))
def fishkeep1_routeRuns_b1 (p0 : S_api_Net) (p1 : S_api_Route) (x17 : S_api_Signal) (i24 : Nat) (x28 : S_api_Step) (s27 : Unit) : Option (Ctl (Unit) (Ctl (Unit) (Bool))) :=
  ((line_SignalAt p0 x28.Section x28.Out).bind fun (x29 : Int × Int) => ((ifb (x28.Section == x17.Section) (some true) (ifb (x29.2 == 0) (ifb (!((i24 : Int) == (w64 (((p1.Steps.length) : Int) - 1)))) (some true) (ifb (x29.1 != p1.To) (some true) (ifb (x29.2 != 0) (ifb ((i24 : Int) == (w64 (((p1.Steps.length) : Int) - 1))) (some (p1.To != (-1))) (some false)) (some false)))) (ifb (x29.2 != 0) (ifb ((i24 : Int) == (w64 (((p1.Steps.length) : Int) - 1))) (some (p1.To != (-1))) (some false)) (some false)))).bind fun (s30 : Bool) => (ifb s30 (some (.out (.out false))) (some (.go ())))))
def fishkeep1_routeRuns (p0 : S_api_Net) (p1 : S_api_Route) : Option (Bool) :=
  ((ifb (decide (p1.From < 0)) (some true) (ifb (decide (p1.From ≥ ((p0.Signals.length) : Int))) (some true) (ifb (((p1.Steps.length) : Int) == 0) (some true) ((line_CheckPath p0 p1.Steps).bind fun (x16 : Int) => (some (x16 != 0)))))).bind fun (s15 : Bool) => (ifb s15 (some false) ((idx p0.Signals p1.From).bind fun (x17 : S_api_Signal) => ((line_Next p0 x17.Section x17.End).bind fun (x18 : Int × Int × Int) => ((ifb (x18.2.2 != 0) (some true) ((idx p1.Steps (0 : Int)).bind fun (x22 : S_api_Step) => (ifb (x22.Section != x18.1) (some true) ((idx p1.Steps (0 : Int)).bind fun (x23 : S_api_Step) => (some (x23.In != x18.2.1)))))).bind fun (s21 : Bool) => (ifb s21 (some false) ((forX (fishkeep1_routeRuns_b1 p0 p1 x17) p1.Steps ()).bind fun c35 => Ctl.on c35 (fun s26 => ((idx p1.Steps (w64 (((p1.Steps.length) : Int) - 1))).bind fun (x31 : S_api_Step) => ((line_Next p0 x31.Section x31.Out).bind fun (x32 : Int × Int × Int) => ((ifb (decide (p1.To ≥ 0)) (some true) (some (x32.2.2 == 9))).bind fun (s33 : Bool) => (some s33))))) (fun r34 => (some r34)))))))))
def fishkeep1_LineRuns_b1 (p0 : S_api_Net) (x7 : Int × List S_api_Route) (i8 : Nat) (x12 : S_api_Route) (s11 : Unit) : Option (Ctl (Unit) (Ctl (Unit) (Bool))) :=
  (((fishkeep1_routeRuns p0 x12).bind fun (x16 : Bool) => (ifb (!x16) (some true) (ifb (decide ((i8 : Int) > 0)) ((idx x7.2 (w64 ((i8 : Int) - 1))).bind fun (x17 : S_api_Route) => (some (decide (x17.From > x12.From)))) (some false)))).bind fun (s15 : Bool) => (ifb s15 (some (.out (.out false))) (some (.go ()))))
def fishkeep1_LineRuns (p0 : S_api_Net) : Option (Bool) :=
  ((fishkeep1_awakeLine).bind fun (x6 : Unit) => ((line_Routes p0).bind fun (x7 : Int × List S_api_Route) => (ifb (x7.1 != 0) (some (((x7.2.length) : Int) == 0)) ((forX (fishkeep1_LineRuns_b1 p0 x7) x7.2 ()).bind fun c19 => Ctl.on c19 (fun s10 => (some true)) (fun r18 => (some r18))))))
end Hd
