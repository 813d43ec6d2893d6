/- Functions of the program as plain functions. Printed by a tool. -/
import Derived.Test.YtoamdmkakblnnaaDoorG1
set_option linter.unusedVariables false
set_option linter.unusedSimpArgs false
set_option maxRecDepth 100000
set_option maxHeartbeats 4000000
namespace Hd
open Go Hk
structure S_api_Section where
  Kind : Int
  Length : Int
  Grade : Int
  Speed : Int
  Slow : Int
  Station : Int
  Axles : Bool
structure S_api_Link where
  A : Int
  EndA : Int
  B : Int
  EndB : Int
structure S_api_Signal where
  Section : Int
  End : Int
structure S_api_Gate where
  Section : Int
  Close : Int
structure S_api_Net where
  Stations : List ByteArray
  Sections : List S_api_Section
  Links : List S_api_Link
  Signals : List S_api_Signal
  Gates : List S_api_Gate
structure S_api_Step where
  Section : Int
  In : Int
  Out : Int
structure S_line_end where
  section_ : Int
  end_ : Int
def S_line_end.keq (a b : S_line_end) : Bool := ieq a.section_ b.section_ && (ieq a.end_ b.end_ && (true))
structure S_api_Piece where
  Length : Int
  Grade : Int
  Speed : Int
def internal_stringslite_HasSuffix : Option (Unit) :=
  ((some ()).bind fun (s2 : Unit) => (some ()))
def internal_stringslite_CutSuffix : Option (Unit) :=
  ((internal_stringslite_HasSuffix).bind fun (x2 : Unit) => (some ()))
def strings_CutSuffix : Option (Unit) :=
  ((internal_stringslite_CutSuffix).bind fun (x2 : Unit) => (some ()))
def strings_Split (p0 : ByteArray) : Option (List ByteArray) := ssplit 10 p0
def strings_Split_v2 (p0 : ByteArray) : Option (List ByteArray) := ssplit 32 p0
def line_Lines_b1 (i8 : Nat) (x12 : ByteArray) (s11 : List (List ByteArray)) : Option (Ctl (List (List ByteArray)) (Ctl (List (List ByteArray)) (Empty))) :=
  ((strings_Split_v2 x12).bind fun (x13 : List ByteArray) => ((gapp 24 s11 [x13]).bind fun (x14 : List (List ByteArray)) => (some (.go x14))))
def line_Lines : Option (List (List ByteArray)) :=
  ((strings_CutSuffix).bind fun (x6 : Unit) => ((strings_Split (⟨#[120]⟩ : ByteArray)).bind fun (x7 : List ByteArray) => ((forX line_Lines_b1 x7 ([] : List (List ByteArray))).bind fun c16 => Ctl.on c16 (fun s10 => (some s10)) (fun x_ => x_.elim))))
def line_Read : Option (S_api_Net) :=
  ((line_Lines).bind fun (x2 : List (List ByteArray)) => (some (S_api_Net.mk ([] : List ByteArray) ([] : List S_api_Section) ([] : List S_api_Link) ([] : List S_api_Signal) ([] : List S_api_Gate))))
def fishkeep1_awakeLine : Option (Unit) :=
  ((line_Read).bind fun (x2 : S_api_Net) => (some ()))
def line_name_b1 (i7 : Nat) (x11 : Int) (s10 : Unit) : Option (Ctl (Unit) (Ctl (Unit) (Bool))) :=
  ((ifb (decide (x11 < 97)) (some true) (some (decide (x11 > 122)))).bind fun (s12 : Bool) => (ifb s12 (some (.out (.out false))) (some (.go ()))))
def line_name (p0 : ByteArray) : Option (Bool) :=
  ((sbytes p0).bind fun (x6 : List Int) => ((forX line_name_b1 x6 ()).bind fun c15 => Ctl.on c15 (fun s9 => ((ifb (decide ((p0.size : Int) ≥ 1)) (some (decide ((p0.size : Int) ≤ 12))) (some false)).bind fun (s13 : Bool) => (some s13))) (fun r14 => (some r14))))
def slices_Index_string_string_b1 (p1 : ByteArray) (i4 : Nat) (x8 : ByteArray) (s7 : Unit) : Option (Ctl (Unit) (Ctl (Unit) (Int))) :=
  (ifb (seq p1 x8) (some (.out (.out (i4 : Int)))) (some (.go ())))
def slices_Index_string_string (p0 : List ByteArray) (p1 : ByteArray) : Option (Int) :=
  ((forX (slices_Index_string_string_b1 p1) p0 ()).bind fun c10 => Ctl.on c10 (fun s6 => (some (-1))) (fun r9 => (some r9)))
def slices_Contains_string_string (p0 : List ByteArray) (p1 : ByteArray) : Option (Bool) :=
  ((slices_Index_string_string p0 p1).bind fun (x2 : Int) => (some (decide (x2 ≥ 0))))
def line_ends (p0 : Int) : Option (Int) :=
  (ifb (p0 == 1) (some 2) (ifb (p0 == 2) (some 3) (ifb (p0 == 3) (some 4) (some 0))))
def line_within (p0 : Int) (p1 : Int) (p2 : Int) : Option (Bool) :=
  ((ifb (decide (p0 ≥ p1)) (some (decide (p0 ≤ p2))) (some false)).bind fun (s2 : Bool) => (some s2))
def line_checkSection (p0 : S_api_Section) (p1 : Int) : Option (Int) :=
  ((line_ends p0.Kind).bind fun (x11 : Int) => (ifb (x11 == 0) (some 1) (((line_within p0.Length 10 3000).bind fun (x16 : Bool) => (ifb (!x16) (some true) ((line_within p0.Grade (-40) 40).bind fun (x17 : Bool) => (ifb (!x17) (some true) ((line_within p0.Speed 300 6000).bind fun (x18 : Bool) => (some (!x18))))))).bind fun (s15 : Bool) => (ifb s15 (some 2) ((ifb (p0.Kind == 2) ((line_within p0.Slow 300 p0.Speed).bind fun (x23 : Bool) => (ifb (!x23) (some true) (ifb (p0.Kind == 1) ((line_within p0.Station 0 p1).bind fun (x24 : Bool) => (some (!x24))) (some false)))) (ifb (p0.Kind == 1) ((line_within p0.Station 0 p1).bind fun (x25 : Bool) => (some (!x25))) (some false))).bind fun (s22 : Bool) => (ifb s22 (some 2) ((ifb (p0.Slow != 0) (ifb (!(p0.Kind == 2)) (some true) (ifb (p0.Station != 0) (ifb (!(p0.Kind == 1)) (some true) (ifb (p0.Grade != 0) (some (p0.Kind == 3)) (some false))) (ifb (p0.Grade != 0) (some (p0.Kind == 3)) (some false)))) (ifb (p0.Station != 0) (ifb (!(p0.Kind == 1)) (some true) (ifb (p0.Grade != 0) (some (p0.Kind == 3)) (some false))) (ifb (p0.Grade != 0) (some (p0.Kind == 3)) (some false)))).bind fun (s26 : Bool) => (ifb s26 (some 1) (some 0)))))))))
def line_has (p0 : S_api_Net) (p1 : S_line_end) : Option (Bool) :=
  (((line_within p1.section_ 0 (w64 (((p0.Sections.length) : Int) - 1))).bind fun (x11 : Bool) => (ifb x11 ((idx p0.Sections p1.section_).bind fun (x12 : S_api_Section) => ((line_ends x12.Kind).bind fun (x13 : Int) => ((line_within p1.end_ 0 (w64 (x13 - 1))).bind fun (x14 : Bool) => (some x14)))) (some false))).bind fun (s10 : Bool) => (some s10))
def cmp_isNaN_int (p0 : Int) : Option (Bool) :=
  (some (p0 != p0))
def cmp_Compare_int (p0 : Int) (p1 : Int) : Option (Int) :=
  ((cmp_isNaN_int p0).bind fun (x3 : Bool) => ((cmp_isNaN_int p1).bind fun (x4 : Bool) => (ifb x3 (ifb x4 (some 0) (some (-1))) (ifb x4 (some 1) (ifb (decide (p0 < p1)) (some (-1)) (ifb (decide (p0 > p1)) (some 1) (some 0)))))))
def cmp_Or_int_b1 (i4 : Nat) (x8 : Int) (s7 : Unit) : Option (Ctl (Unit) (Ctl (Unit) (Int))) :=
  (ifb (x8 != 0) (some (.out (.out x8))) (some (.go ())))
def cmp_Or_int (p0 : List Int) : Option (Int) :=
  ((forX cmp_Or_int_b1 p0 ()).bind fun c10 => Ctl.on c10 (fun s6 => (some 0)) (fun r9 => (some r9)))
def line_checkLinks_b1 (p0 : S_api_Net) (i4 : Nat) (x8 : S_api_Link) (s7 : (List (S_line_end × Bool))) : Option (Ctl ((List (S_line_end × Bool))) (Ctl ((List (S_line_end × Bool))) (Int))) :=
  ((some (x8.A, x8.EndA, x8.B, x8.EndB)).bind fun (s9 : Int × Int × Int × Int) => (((line_has p0 (S_line_end.mk s9.1 s9.2.1)).bind fun (x13 : Bool) => (ifb (!x13) (some true) ((line_has p0 (S_line_end.mk s9.2.2.1 s9.2.2.2)).bind fun (x14 : Bool) => (some (!x14))))).bind fun (s12 : Bool) => (ifb s12 (some (.out (.out 3))) (ifb (x8.A == x8.B) (some (.out (.out 1))) (ifb (decide (x8.A > x8.B)) (some (.out (.out 5))) (((ifb (decide ((i4 : Int) > 0)) ((idx p0.Links (w64 ((i4 : Int) - 1))).bind fun (x20 : S_api_Link) => ((cmp_Compare_int x20.A x8.A).bind fun (x21 : Int) => ((cmp_Compare_int x20.EndA x8.EndA).bind fun (x22 : Int) => ((cmp_Or_int [x21, x22]).bind fun (x23 : Int) => (ifb (decide (x23 ≥ 0)) (some (.out 5)) (some (.go ()))))))) (some (.go ()))) : Option (Ctl (Unit) (Int))).bind fun c26 => Ctl.on c26 (fun s19 => ((ifb ((mfind S_line_end.keq (S_line_end.mk s9.1 s9.2.1) s7).getD false) (some true) (some ((mfind S_line_end.keq (S_line_end.mk s9.2.2.1 s9.2.2.2) s7).getD false))).bind fun (s24 : Bool) => (ifb s24 (some (.out (.out 6))) (some (.go (mset S_line_end.keq (S_line_end.mk s9.2.2.1 s9.2.2.2) true (mset S_line_end.keq (S_line_end.mk s9.1 s9.2.1) true s7))))))) (fun r25 => (some (.out (.out r25))))))))))
def line_checkLinks (p0 : S_api_Net) : Option (Int) :=
  ((forX (line_checkLinks_b1 p0) p0.Links ([] : List (S_line_end × Bool))).bind fun c28 => Ctl.on c28 (fun s6 => (some 0)) (fun r27 => (some r27)))
def line_joined_b1 (p1 : S_line_end) (i4 : Nat) (x8 : S_api_Link) (s7 : Unit) : Option (Ctl (Unit) (Ctl (Unit) (Bool × S_line_end))) :=
  ((ifb (x8.A == p1.section_) (some (x8.EndA == p1.end_)) (some false)).bind fun (s9 : Bool) => (ifb s9 (some (.out (.out (true, (S_line_end.mk x8.B x8.EndB))))) ((ifb (x8.B == p1.section_) (some (x8.EndB == p1.end_)) (some false)).bind fun (s10 : Bool) => (ifb s10 (some (.out (.out (true, (S_line_end.mk x8.A x8.EndA))))) (some (.go ()))))))
def line_joined (p0 : S_api_Net) (p1 : S_line_end) : Option (Bool × S_line_end) :=
  ((forX (line_joined_b1 p1) p0.Links ()).bind fun c12 => Ctl.on c12 (fun s6 => (some (false, (S_line_end.mk 0 0)))) (fun r11 => (some r11)))
def line_checkSignals_b1 (p0 : S_api_Net) (i4 : Nat) (x8 : S_api_Signal) (s7 : Unit) : Option (Ctl (Unit) (Ctl (Unit) (Int))) :=
  ((line_has p0 (S_line_end.mk x8.Section x8.End)).bind fun (x9 : Bool) => (ifb (!x9) (some (.out (.out 3))) ((line_joined p0 (S_line_end.mk x8.Section x8.End)).bind fun (x10 : Bool × S_line_end) => ((ifb (!x10.1) (some true) ((idx p0.Sections x8.Section).bind fun (x13 : S_api_Section) => (some (x13.Kind != 1)))).bind fun (s12 : Bool) => (ifb s12 (some (.out (.out 1))) (ifb (decide ((i4 : Int) > 0)) ((idx p0.Signals (w64 ((i4 : Int) - 1))).bind fun (x14 : S_api_Signal) => ((cmp_Compare_int x14.Section x8.Section).bind fun (x15 : Int) => ((cmp_Compare_int x14.End x8.End).bind fun (x16 : Int) => ((cmp_Or_int [x15, x16]).bind fun (x17 : Int) => (ifb (decide (x17 ≥ 0)) (some (.out (.out 5))) (some (.go ()))))))) (some (.go ()))))))))
def line_checkSignals (p0 : S_api_Net) : Option (Int) :=
  ((forX (line_checkSignals_b1 p0) p0.Signals ()).bind fun c19 => Ctl.on c19 (fun s6 => (some 0)) (fun r18 => (some r18)))
def line_checkGates_b1 (p0 : S_api_Net) (i4 : Nat) (x8 : S_api_Gate) (s7 : Unit) : Option (Ctl (Unit) (Ctl (Unit) (Int))) :=
  ((line_within x8.Section 0 (w64 (((p0.Sections.length) : Int) - 1))).bind fun (x9 : Bool) => (ifb (!x9) (some (.out (.out 3))) ((idx p0.Sections x8.Section).bind fun (x10 : S_api_Section) => (ifb (x10.Kind != 1) (some (.out (.out 1))) ((line_within x8.Close 1 12).bind fun (x11 : Bool) => (ifb (!x11) (some (.out (.out 2))) ((ifb (decide ((i4 : Int) > 0)) ((idx p0.Gates (w64 ((i4 : Int) - 1))).bind fun (x14 : S_api_Gate) => (some (decide (x8.Section ≤ x14.Section)))) (some false)).bind fun (s13 : Bool) => (ifb s13 (some (.out (.out 5))) (some (.go ()))))))))))
def line_checkGates (p0 : S_api_Net) : Option (Int) :=
  ((forX (line_checkGates_b1 p0) p0.Gates ()).bind fun c16 => Ctl.on c16 (fun s6 => (some 0)) (fun r15 => (some r15)))
def line_Check_b1 (p0 : S_api_Net) (i12 : Nat) (x16 : ByteArray) (s15 : Unit) : Option (Ctl (Unit) (Ctl (Unit) (Int))) :=
  ((line_name x16).bind fun (x17 : Bool) => (ifb (!x17) (some (.out (.out 1))) ((gcut p0.Stations 0 (i12 : Int)).bind fun (x18 : List ByteArray) => ((slices_Contains_string_string x18 x16).bind fun (x19 : Bool) => (ifb x19 (some (.out (.out 6))) (some (.go ())))))))
def line_Check_b2 (p0 : S_api_Net) (i20 : Nat) (x24 : S_api_Section) (s23 : Unit) : Option (Ctl (Unit) (Ctl (Unit) (Int))) :=
  ((line_checkSection x24 ((p0.Stations.length) : Int)).bind fun (x25 : Int) => (ifb (x25 != 0) (some (.out (.out x25))) (some (.go ()))))
def line_Check (p0 : S_api_Net) : Option (Int) :=
  (ifb (((p0.Sections.length) : Int) == 0) (some 1) ((ifb (decide (((p0.Stations.length) : Int) > 12)) (some true) (ifb (decide (((p0.Sections.length) : Int) > 60)) (some true) (ifb (decide (((p0.Links.length) : Int) > 90)) (some true) (ifb (decide (((p0.Signals.length) : Int) > 40)) (some true) (some (decide (((p0.Gates.length) : Int) > 8))))))).bind fun (s11 : Bool) => (ifb s11 (some 4) ((forX (line_Check_b1 p0) p0.Stations ()).bind fun c32 => Ctl.on c32 (fun s14 => ((forX (line_Check_b2 p0) p0.Sections ()).bind fun c30 => Ctl.on c30 (fun s22 => ((line_checkLinks p0).bind fun (x26 : Int) => (ifb (x26 != 0) (some x26) ((line_checkSignals p0).bind fun (x27 : Int) => (ifb (x27 != 0) (some x27) ((line_checkGates p0).bind fun (x28 : Int) => (ifb (x28 != 0) (some x28) (some 0)))))))) (fun r29 => (some r29)))) (fun r31 => (some r31))))))
def line_outs (p0 : Int) (p1 : Int) : Option (List Int) :=
  ((ifb (p0 == 2) (some (p1 == 0)) (some false)).bind fun (s2 : Bool) => (ifb s2 (some [1, 2]) (ifb (p0 == 2) (some [0]) (some [ixor .i64 p1 1]))))
def slices_Index_int_int_b1 (p1 : Int) (i4 : Nat) (x8 : Int) (s7 : Unit) : Option (Ctl (Unit) (Ctl (Unit) (Int))) :=
  (ifb (p1 == x8) (some (.out (.out (i4 : Int)))) (some (.go ())))
def slices_Index_int_int (p0 : List Int) (p1 : Int) : Option (Int) :=
  ((forX (slices_Index_int_int_b1 p1) p0 ()).bind fun c10 => Ctl.on c10 (fun s6 => (some (-1))) (fun r9 => (some r9)))
def slices_Contains_int_int (p0 : List Int) (p1 : Int) : Option (Bool) :=
  ((slices_Index_int_int p0 p1).bind fun (x2 : Int) => (some (decide (x2 ≥ 0))))
def line_CheckPath_b1 (p0 : S_api_Net) (p1 : List S_api_Step) (i6 : Nat) (x10 : S_api_Step) (s9 : (List (Int × Bool))) : Option (Ctl ((List (Int × Bool))) (Ctl ((List (Int × Bool))) (Int))) :=
  (((line_has p0 (S_line_end.mk x10.Section x10.In)).bind fun (x14 : Bool) => (ifb (!x14) (some true) ((line_has p0 (S_line_end.mk x10.Section x10.Out)).bind fun (x15 : Bool) => (some (!x15))))).bind fun (s13 : Bool) => (ifb s13 (some (.out (.out 3))) ((idx p0.Sections x10.Section).bind fun (x16 : S_api_Section) => ((line_outs x16.Kind x10.In).bind fun (x17 : List Int) => ((slices_Contains_int_int x17 x10.Out).bind fun (x18 : Bool) => (ifb (!x18) (some (.out (.out 1))) (((ifb (decide ((i6 : Int) > 0)) ((idx p1 (w64 ((i6 : Int) - 1))).bind fun (x23 : S_api_Step) => ((line_joined p0 (S_line_end.mk x23.Section x23.Out)).bind fun (x24 : Bool × S_line_end) => ((ifb (!x24.1) (some true) (some (!(ieq x24.2.section_ x10.Section && (ieq x24.2.end_ x10.In && true))))).bind fun (s25 : Bool) => (ifb s25 (some (.out 5)) (some (.go ())))))) (some (.go ()))) : Option (Ctl (Unit) (Int))).bind fun c27 => Ctl.on c27 (fun s22 => (ifb ((mfind ieq x10.Section s9).getD false) (some (.out (.out 6))) (some (.go (mset ieq x10.Section true s9))))) (fun r26 => (some (.out (.out r26)))))))))))
def line_CheckPath (p0 : S_api_Net) (p1 : List S_api_Step) : Option (Int) :=
  ((line_Check p0).bind fun (x5 : Int) => (ifb (x5 != 0) (some x5) (ifb (decide (((p1.length) : Int) > 60)) (some 4) ((forX (line_CheckPath_b1 p0 p1) p1 ([] : List (Int × Bool))).bind fun c29 => Ctl.on c29 (fun s8 => (some 0)) (fun r28 => (some r28))))))
def slices_Backward_api_Step_api_Step (p0 : List S_api_Step) : Option (List S_api_Step) :=
  (some p0)
def it0_slices_Backward_api_Step_api_Step_1_b1 (p0 : Option (List S_api_Step)) (s2 : Int) : Option (Option ((Int × S_api_Step) × Option (Int))) :=
  (ifb (decide (s2 ≥ 0)) ((p0).bind fun (x3 : List S_api_Step) => ((idx x3 s2).bind fun (x4 : S_api_Step) => (some (some ((s2, x4), ((some ()).bind fun (_ : Unit) => (some (w64 (s2 - 1))))))))) (some none))
def it0_slices_Backward_api_Step_api_Step_1_N (n_ : Nat) (p0 : Option (List S_api_Step)) : Option (List (Int × S_api_Step)) :=
  ((p0).bind fun (x1 : List S_api_Step) => (collectY (it0_slices_Backward_api_Step_api_Step_1_b1 p0) n_ (w64 (((x1.length) : Int) - 1))))
def it0_slices_Backward_api_Step_api_Step_1 (p0 : Option (List S_api_Step)) : Option (List (Int × S_api_Step)) := it0_slices_Backward_api_Step_api_Step_1_N bigN p0
def line_Reverse_b1 (_ : Nat) (e7 : Int × S_api_Step) (s9 : List S_api_Step) : Option (Ctl (List S_api_Step) (Ctl (List S_api_Step) (Empty))) :=
  ((gapp 24 s9 [(S_api_Step.mk e7.2.Section e7.2.Out e7.2.In)]).bind fun (x10 : List S_api_Step) => (some (.go x10)))
def line_Reverse (p0 : List S_api_Step) : Option (List S_api_Step) :=
  ((slices_Backward_api_Step_api_Step p0).bind fun (x5 : List S_api_Step) => ((it0_slices_Backward_api_Step_api_Step_1 (some x5)).bind fun (x6 : List (Int × S_api_Step)) => ((forC line_Reverse_b1 x6 ([] : List S_api_Step)).bind fun c12 => Ctl.on c12 (fun s8 => (some s8)) (fun x_ => x_.elim))))
def line_Length_b1 (p0 : S_api_Net) (i6 : Nat) (x10 : S_api_Step) (s9 : Int) : Option (Ctl (Int) (Ctl (Int) (Empty))) :=
  ((idx p0.Sections x10.Section).bind fun (x11 : S_api_Section) => (some (.go (w64 (s9 + x11.Length)))))
def line_Length (p0 : S_api_Net) (p1 : List S_api_Step) : Option (Int × Int) :=
  ((line_CheckPath p0 p1).bind fun (x5 : Int) => (ifb (x5 != 0) (some (0, x5)) ((forX (line_Length_b1 p0) p1 0).bind fun c13 => Ctl.on c13 (fun s8 => (some (s8, 0))) (fun x_ => x_.elim))))
def line_Profile_b1 (p0 : S_api_Net) (i6 : Nat) (x10 : S_api_Step) (s9 : List S_api_Piece) : Option (Ctl (List S_api_Piece) (Ctl (List S_api_Piece) (Empty))) :=
  ((idx p0.Sections x10.Section).bind fun (x11 : S_api_Section) => ((ifb (x10.In != 0) (some (w64 (0 - x11.Grade))) (some x11.Grade)).bind fun (s12 : Int) => (((ifb (x11.Kind == 2) (ifb (x10.In == 2) (some true) (some (x10.Out == 2))) (some false)).bind fun (s15 : Bool) => (ifb s15 (some x11.Slow) (some x11.Speed))).bind fun (s14 : Int) => ((gapp 24 s9 [(S_api_Piece.mk (w64 (100 * x11.Length)) s12 s14)]).bind fun (x16 : List S_api_Piece) => (some (.go x16))))))
def line_Profile (p0 : S_api_Net) (p1 : List S_api_Step) : Option (Int × List S_api_Piece) :=
  ((line_CheckPath p0 p1).bind fun (x5 : Int) => (ifb (x5 != 0) (some (x5, ([] : List S_api_Piece))) ((forX (line_Profile_b1 p0) p1 ([] : List S_api_Piece)).bind fun c18 => Ctl.on c18 (fun s8 => (some (0, s8))) (fun x_ => x_.elim))))
def slices_Equal_api_Step_api_Step_b1 (p1 : List S_api_Step) (i4 : Nat) (x8 : S_api_Step) (s7 : Unit) : Option (Ctl (Unit) (Ctl (Unit) (Bool))) :=
  ((idx p1 (i4 : Int)).bind fun (x9 : S_api_Step) => (ifb (!(ieq x8.Section x9.Section && (ieq x8.In x9.In && (ieq x8.Out x9.Out && true)))) (some (.out (.out false))) (some (.go ()))))
def slices_Equal_api_Step_api_Step (p0 : List S_api_Step) (p1 : List S_api_Step) : Option (Bool) :=
  (ifb (((p0.length) : Int) != ((p1.length) : Int)) (some false) ((forX (slices_Equal_api_Step_api_Step_b1 p1) p0 ()).bind fun c11 => Ctl.on c11 (fun s6 => (some true)) (fun r10 => (some r10))))
def fishkeep1_LineTurns_b1 (x21 : Int × List S_api_Piece) (i25 : Nat) (x29 : S_api_Piece) (s28 : Unit) : Option (Ctl (Unit) (Ctl (Unit) (Bool))) :=
  ((idx x21.2 (w64 ((w64 (((x21.2.length) : Int) - 1)) - (i25 : Int)))).bind fun (x30 : S_api_Piece) => ((ifb (x29.Length != x30.Length) (some true) (ifb (x29.Grade != (w64 (0 - x30.Grade))) (some true) (some (x29.Speed != x30.Speed)))).bind fun (s31 : Bool) => (ifb s31 (some (.out (.out false))) (some (.go ())))))
def fishkeep1_LineTurns (p0 : S_api_Net) (p1 : List S_api_Step) : Option (Bool) :=
  ((fishkeep1_awakeLine).bind fun (x15 : Unit) => ((line_CheckPath p0 p1).bind fun (x16 : Int) => (ifb (x16 != 0) (some true) ((line_Reverse p1).bind fun (x17 : List S_api_Step) => ((line_Length p0 p1).bind fun (x18 : Int × Int) => ((line_Length p0 x17).bind fun (x19 : Int × Int) => ((line_Profile p0 p1).bind fun (x20 : Int × List S_api_Piece) => ((line_Profile p0 x17).bind fun (x21 : Int × List S_api_Piece) => (((line_CheckPath p0 x17).bind fun (x24 : Int) => (ifb (x24 != 0) (some true) (ifb (x18.2 != 0) (some true) (ifb (x19.2 != 0) (some true) (ifb (x20.1 != 0) (some true) (ifb (x21.1 != 0) (some true) (ifb (x18.1 != x19.1) (some true) (ifb (((x20.2.length) : Int) != ((p1.length) : Int)) (some true) (some (((x21.2.length) : Int) != ((p1.length) : Int))))))))))).bind fun (s23 : Bool) => (ifb s23 (some false) ((forX (fishkeep1_LineTurns_b1 x21) x20.2 ()).bind fun c35 => Ctl.on c35 (fun s27 => ((line_Reverse x17).bind fun (x32 : List S_api_Step) => ((slices_Equal_api_Step_api_Step x32 p1).bind fun (x33 : Bool) => (some x33)))) (fun r34 => (some r34)))))))))))))
end Hd
