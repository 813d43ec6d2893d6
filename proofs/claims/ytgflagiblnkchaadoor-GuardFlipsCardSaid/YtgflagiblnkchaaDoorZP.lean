/- Functions of the program as plain functions. Printed by a tool. -/
import Derived.Test.YtgflagiblnkchaaDoorG1
set_option linter.unusedVariables false
set_option linter.unusedSimpArgs false
set_option maxRecDepth 100000
set_option maxHeartbeats 4000000
namespace Hd
open Go Hk
structure S_guard_Telegram where
  Link : Int
  Section : Int
  Away : Int
structure S_guard_Packet where
  Kind : Int
  Session : Int
  No : Int
  Of : Int
  End : Int
  At : Int
  Speed : Int
  Sent : Int
def strings_Split (p0 : ByteArray) : Option (List ByteArray) := ssplit 32 p0
def line_Number (p0 : ByteArray) : Option (Int × Bool) := numE p0
def line_Numbers_b1 (i4 : Nat) (x8 : ByteArray) (s7 : List Int) : Option (Ctl (List Int) (Ctl (List Int) (Bool × List Int))) :=
  ((line_Number x8).bind fun (x9 : Int × Bool) => (ifb (!x9.2) (some (.out (.out (false, ([] : List Int))))) ((gapp 8 s7 [x9.1]).bind fun (x10 : List Int) => (some (.go x10)))))
def line_Numbers (p0 : List ByteArray) : Option (Bool × List Int) :=
  ((forX line_Numbers_b1 p0 ([] : List Int)).bind fun c12 => Ctl.on c12 (fun s6 => (some (true, s6))) (fun r11 => (some r11)))
def guard_within (p0 : Int) (p1 : Int) (p2 : Int) : Option (Bool) :=
  ((ifb (decide (p0 ≥ p1)) (some (decide (p0 ≤ p2))) (some false)).bind fun (s2 : Bool) => (some s2))
def guard_Packet_used (p0 : S_guard_Packet) : Option (S_guard_Packet) :=
  ((ifb (p0.Kind == 1) (some (0, 0, p0.At, 0)) (ifb (p0.Kind == 3) (some (0, p0.End, p0.At, p0.Speed)) ((ifb (p0.Kind == 4) (some (p0.Kind == 4)) (some (p0.Kind == 5))).bind fun (s5 : Bool) => (ifb s5 (some (0, p0.End, 0, 0)) (ifb (p0.Kind == 7) (some (p0.Of, p0.End, 0, 0)) (ifb (p0.Kind == 8) (some (p0.Of, 0, 0, 0)) (some (0, 0, 0, 0)))))))).bind fun (s4 : Int × Int × Int × Int) => (some (S_guard_Packet.mk p0.Kind p0.Session p0.No s4.1 s4.2.1 s4.2.2.1 s4.2.2.2 p0.Sent)))
def guard_Packet_check (p0 : S_guard_Packet) : Option (Int) :=
  ((guard_within p0.Kind 1 8).bind fun (x12 : Bool) => (ifb (!x12) (some 15) (((guard_within p0.Session 1 1000000).bind fun (x21 : Bool) => (ifb (!x21) (some true) ((guard_within p0.No 1 1000000).bind fun (x22 : Bool) => (ifb (!x22) (some true) ((guard_within p0.Of 0 1000000).bind fun (x23 : Bool) => (ifb (!x23) (some true) ((guard_within p0.End 0 20000000).bind fun (x24 : Bool) => (ifb (!x24) (some true) ((guard_within p0.At 0 20000000).bind fun (x25 : Bool) => (ifb (!x25) (some true) ((guard_within p0.Speed 0 6000).bind fun (x26 : Bool) => (ifb (!x26) (some true) ((guard_within p0.Sent 0 28800).bind fun (x27 : Bool) => (some (!x27))))))))))))))).bind fun (s20 : Bool) => (ifb s20 (some 2) (((guard_Packet_used p0).bind fun (x30 : S_guard_Packet) => (ifb (!(ieq p0.Kind x30.Kind && (ieq p0.Session x30.Session && (ieq p0.No x30.No && (ieq p0.Of x30.Of && (ieq p0.End x30.End && (ieq p0.At x30.At && (ieq p0.Speed x30.Speed && (ieq p0.Sent x30.Sent && true))))))))) (some true) (ifb (p0.Of == 0) (some (decide (p0.Kind ≥ 7))) (some false)))).bind fun (s29 : Bool) => (ifb s29 (some 1) (some 0)))))))
def guard_Unpack : Option (Int × S_guard_Packet) :=
  ((strings_Split (⟨#[]⟩ : ByteArray)).bind fun (x13 : List ByteArray) => ((line_Numbers x13).bind fun (x14 : Bool × List Int) => ((ifb (!x14.1) (some true) (some (((x14.2.length) : Int) != 8))).bind fun (s15 : Bool) => (ifb s15 (some (10, (S_guard_Packet.mk 0 0 0 0 0 0 0 0))) ((idx x14.2 (0 : Int)).bind fun (x16 : Int) => ((idx x14.2 (1 : Int)).bind fun (x17 : Int) => ((idx x14.2 (2 : Int)).bind fun (x18 : Int) => ((idx x14.2 (3 : Int)).bind fun (x19 : Int) => ((idx x14.2 (4 : Int)).bind fun (x20 : Int) => ((idx x14.2 (5 : Int)).bind fun (x21 : Int) => ((idx x14.2 (6 : Int)).bind fun (x22 : Int) => ((idx x14.2 (7 : Int)).bind fun (x23 : Int) => ((guard_Packet_check (S_guard_Packet.mk x16 x17 x18 x19 x20 x21 x22 x23)).bind fun (x24 : Int) => (ifb (x24 != 0) (some (x24, (S_guard_Packet.mk 0 0 0 0 0 0 0 0))) (some (0, (S_guard_Packet.mk x16 x17 x18 x19 x20 x21 x22 x23)))))))))))))))))
def fishkeep1_awakeGuard : Option (Bool) :=
  ((guard_Unpack).bind fun (x2 : Int × S_guard_Packet) => (some (x2.1 != 0)))
def guard_Telegram_check (p0 : S_guard_Telegram) : Option (Int) :=
  (((guard_within p0.Link 0 89).bind fun (x9 : Bool) => (ifb (!x9) (some true) ((guard_within p0.Section 0 59).bind fun (x10 : Bool) => (ifb (!x10) (some true) ((guard_within p0.Away 0 60000).bind fun (x11 : Bool) => (some (!x11))))))).bind fun (s8 : Bool) => (ifb s8 (some 2) (some 0)))
def guard_Sum_b2 (s13 : Int × Int) : Option (Ctl (Int × Int) (Ctl (Int) (Empty))) :=
  (ifb (decide (s13.2 < 8)) (((gshl .u16 s13.1 1).bind fun (q16 : Int) => (ifb ((iand .u16 s13.1 32768) != 0) (some (ixor .u16 q16 4129)) (some q16))).bind fun (s15 : Int) => (some (.go (s15, w64 (s13.2 + 1))))) (some (.out (.go s13.1))))
def guard_Sum_b1 (i4 : Nat) (x8 : Int) (s7 : Int) : Option (Ctl (Int) (Ctl (Int) (Empty))) :=
  ((gshl .u16 (IntKind.u16.wrap x8) 8).bind fun (q9 : Int) => ((iter guard_Sum_b2 (ixor .u16 s7 q9, 0)).bind fun c18 => Ctl.on c18 (fun s12 => (some (.go s12))) (fun x_ => x_.elim)))
def guard_Sum (p0 : List Int) : Option (Int) :=
  ((forX guard_Sum_b1 p0 65535).bind fun c20 => Ctl.on c20 (fun s6 => (some (w64 s6))) (fun x_ => x_.elim))
def guard_Write (p0 : S_guard_Telegram) : Option (Int × List Int) :=
  ((guard_Telegram_check p0).bind fun (x17 : Int) => (ifb (x17 != 0) (some (x17, ([] : List Int))) ((gshr .i64 p0.Link 8).bind fun (q18 : Int) => ((gshr .i64 p0.Away 8).bind fun (q19 : Int) => ((glen (List.replicate 8 (0 : Int)) 8).bind fun (x20 : Unit) => ((glen [82, IntKind.u8.wrap q18, IntKind.u8.wrap p0.Link, IntKind.u8.wrap p0.Section, IntKind.u8.wrap q19, IntKind.u8.wrap p0.Away, 0, 0] 8).bind fun (x21 : Unit) => ((gcut [82, IntKind.u8.wrap q18, IntKind.u8.wrap p0.Link, IntKind.u8.wrap p0.Section, IntKind.u8.wrap q19, IntKind.u8.wrap p0.Away, 0, 0] 0 6).bind fun (x22 : List Int) => ((gcut [82, IntKind.u8.wrap q18, IntKind.u8.wrap p0.Link, IntKind.u8.wrap p0.Section, IntKind.u8.wrap q19, IntKind.u8.wrap p0.Away, 0, 0] 0 6).bind fun (x23 : List Int) => ((guard_Sum x23).bind fun (x24 : Int) => ((gshr .i64 x24 8).bind fun (q25 : Int) => ((gix 8 6).bind fun (x26 : Unit) => ((idx [82, IntKind.u8.wrap q18, IntKind.u8.wrap p0.Link, IntKind.u8.wrap p0.Section, IntKind.u8.wrap q19, IntKind.u8.wrap p0.Away, 0, 0] (0 + 6 * 1)).bind fun (x27 : Int) => ((gix 8 7).bind fun (x28 : Unit) => ((idx (setI [82, IntKind.u8.wrap q18, IntKind.u8.wrap p0.Link, IntKind.u8.wrap p0.Section, IntKind.u8.wrap q19, IntKind.u8.wrap p0.Away, 0, 0] (0 + 6 * 1) (IntKind.u8.wrap q25)) (0 + 7 * 1)).bind fun (x29 : Int) => ((glen (setI (setI [82, IntKind.u8.wrap q18, IntKind.u8.wrap p0.Link, IntKind.u8.wrap p0.Section, IntKind.u8.wrap q19, IntKind.u8.wrap p0.Away, 0, 0] (0 + 6 * 1) (IntKind.u8.wrap q25)) (0 + 7 * 1) (IntKind.u8.wrap x24)) 8).bind fun (x30 : Unit) => ((gcut (setI (setI [82, IntKind.u8.wrap q18, IntKind.u8.wrap p0.Link, IntKind.u8.wrap p0.Section, IntKind.u8.wrap q19, IntKind.u8.wrap p0.Away, 0, 0] (0 + 6 * 1) (IntKind.u8.wrap q25)) (0 + 7 * 1) (IntKind.u8.wrap x24)) 0 8).bind fun (x31 : List Int) => ((gapp 1 ([] : List Int) x31).bind fun (x32 : List Int) => (some (0, x32)))))))))))))))))))
def guard_Read (p0 : List Int) : Option (Int × S_guard_Telegram) :=
  (ifb (((p0.length) : Int) != 8) (some (1, (S_guard_Telegram.mk 0 0 0))) ((gcut p0 0 6).bind fun (x15 : List Int) => ((guard_Sum x15).bind fun (x16 : Int) => ((idx p0 (6 : Int)).bind fun (x17 : Int) => ((gshl .i64 (w64 x17) 8).bind fun (q18 : Int) => ((idx p0 (7 : Int)).bind fun (x19 : Int) => (ifb (x16 != (ior .i64 q18 (w64 x19))) (some (11, (S_guard_Telegram.mk 0 0 0))) ((idx p0 (0 : Int)).bind fun (x20 : Int) => (ifb (x20 != 82) (some (1, (S_guard_Telegram.mk 0 0 0))) ((idx p0 (1 : Int)).bind fun (x21 : Int) => ((gshl .i64 (w64 x21) 8).bind fun (q22 : Int) => ((idx p0 (2 : Int)).bind fun (x23 : Int) => ((idx p0 (3 : Int)).bind fun (x24 : Int) => ((idx p0 (4 : Int)).bind fun (x25 : Int) => ((gshl .i64 (w64 x25) 8).bind fun (q26 : Int) => ((idx p0 (5 : Int)).bind fun (x27 : Int) => ((guard_Telegram_check (S_guard_Telegram.mk (ior .i64 q22 (w64 x23)) (w64 x24) (ior .i64 q26 (w64 x27)))).bind fun (x28 : Int) => (ifb (x28 != 0) (some (x28, (S_guard_Telegram.mk 0 0 0))) (some (0, (S_guard_Telegram.mk (ior .i64 q22 (w64 x23)) (w64 x24) (ior .i64 q26 (w64 x27)))))))))))))))))))))))
def slices_Clone_byte_byte_v2 (p0 : Option (List Int)) : Option (List Int) :=
  (ifb p0.isNone (some ([] : List Int)) ((gapp 1 ([] : List Int) (p0.getD [])).bind fun (x2 : List Int) => (some x2)))
def slices_Clone_byte_byte (p0 : List Int) : Option (List Int) := slices_Clone_byte_byte_v2 (some p0)
def slices_Index_int_int_b1 (p1 : Int) (i4 : Nat) (x8 : Int) (s7 : Unit) : Option (Ctl (Unit) (Ctl (Unit) (Int))) :=
  (ifb (p1 == x8) (some (.out (.out (i4 : Int)))) (some (.go ())))
def slices_Index_int_int (p0 : List Int) (p1 : Int) : Option (Int) :=
  ((forX (slices_Index_int_int_b1 p1) p0 ()).bind fun c10 => Ctl.on c10 (fun s6 => (some (-1))) (fun r9 => (some r9)))
def slices_Contains_int_int (p0 : List Int) (p1 : Int) : Option (Bool) :=
  ((slices_Index_int_int p0 p1).bind fun (x2 : Int) => (some (decide (x2 ≥ 0))))
def fishkeep1_GuardFlips_b1 (p1 : List Int) (i16 : Nat) (x20 : Int) (s19 : List Int) : Option (Ctl (List Int) (Ctl (List Int) (Bool))) :=
  ((ifb (decide (x20 < 0)) (some true) (ifb (decide (x20 ≥ 64)) (some true) ((gcut p1 0 (i16 : Int)).bind fun (x24 : List Int) => ((slices_Contains_int_int x24 x20).bind fun (x25 : Bool) => (some x25))))).bind fun (s23 : Bool) => (ifb s23 (some (.out (.out true))) ((gquoK .i64 x20 8).bind fun (q26 : Int) => ((idx s19 q26).bind fun (x27 : Int) => ((gremK x20 8).bind fun (q28 : Int) => ((gshl .u8 1 q28).bind fun (q29 : Int) => ((idx s19 q26).bind fun (x30 : Int) => (some (.go (setI s19 q26 (ixor .u8 x27 q29)))))))))))
def fishkeep1_GuardFlips (p0 : S_guard_Telegram) (p1 : List Int) : Option (Bool) :=
  ((fishkeep1_awakeGuard).bind fun (x11 : Bool) => (ifb (!x11) (some false) ((guard_Write p0).bind fun (x12 : Int × List Int) => (ifb (x12.1 != 0) (some (((x12.2.length) : Int) == 0)) ((guard_Read x12.2).bind fun (x13 : Int × S_guard_Telegram) => ((ifb (x13.1 != 0) (some true) (ifb (!(ieq x13.2.Link p0.Link && (ieq x13.2.Section p0.Section && (ieq x13.2.Away p0.Away && true)))) (some true) (some (((x12.2.length) : Int) != 8)))).bind fun (s14 : Bool) => (ifb s14 (some false) ((slices_Clone_byte_byte x12.2).bind fun (x15 : List Int) => ((forX (fishkeep1_GuardFlips_b1 p1) p1 x15).bind fun c34 => Ctl.on c34 (fun s18 => ((ifb (decide (((p1.length) : Int) < 1)) (some true) (some (decide (((p1.length) : Int) > 3)))).bind fun (s31 : Bool) => (ifb s31 (some true) ((guard_Read s18).bind fun (x32 : Int × S_guard_Telegram) => (some (x32.1 == 11)))))) (fun r33 => (some r33)))))))))))
end Hd
