/- Each call returns what its plain function gives. Printed by a tool. -/
import Derived.Test.YtgflagiblnkchaaDoorZT
set_option linter.unusedVariables false
set_option linter.unusedSimpArgs false
set_option maxRecDepth 100000
set_option maxHeartbeats 4000000
namespace Hd
open Go Hk Go.Proofs
def strings_Split.A : Tpl := ⟨[.slot 0 (.one (.d .str)), .slot 1 (.one (.ks (⟨#[32]⟩ : ByteArray)))], [], 0⟩
def strings_Split.R : Tpl := ⟨[.slot 4 (.one (.own 2 .str)), .arr 2 .str 2], [(2, .arr .str)], 3⟩
def strings_Split.S : Spec tab := ⟨37, strings_Split.A, strings_Split.R, [4], fun (t : ByteArray) => ssplit 32 t⟩
theorem strings_Split.H : Good Tryd.prog strings_Split.S := split_good (B := tab) Tryd.lays146 (by kernel_rfl) (by kernel_rfl) 32 4
def line_Number.A : Tpl := ⟨[.slot 0 (.one (.d .str))], [], 0⟩
def line_Number.R : Tpl := ⟨[.slot 2 (.one (.d (.int .i64))), .slot 3 (.one (.d .bool))], [], 0⟩
def line_Number.S : Spec tab := ⟨55, line_Number.A, line_Number.R, [2, 3], fun (t : TplT tab line_Number.A) => line_Number t⟩
theorem line_Number.H : Good Tryd.prog line_Number.S := num_good (B := tab) (by kernel_rfl) (by decide) fun w f hg hl => numCalls w f hg hl
def line_Numbers.A : Tpl := ⟨[.slot 0 (.one (.d (.sl .str)))], [], 0⟩
def line_Numbers.R : Tpl := ⟨[.slot 2 (.one (.own 1 (.int .i64))), .slot 3 (.one (.d .bool)), .arr 1 (.int .i64) 0], [(1, .arr (.int .i64))], 2⟩
def line_Numbers.S : Spec tab := ⟨36, line_Numbers.A, line_Numbers.R, [2, 3], fun (t : TplT tab line_Numbers.A) => line_Numbers t⟩
def line_Numbers.h : Hint := .s .n (.s .n (.s (.s .n (.rg ⟨[.slot 4 (.one (.own 385 (.int .i64))), .arr 385 (.int .i64) 0, .kr 6 3, .kr 13 13], [(385, .arr (.int .i64))], 386⟩ true (.b (.s .n (.s (.r [(1, 0)]) .n))))) .n))
theorem line_Numbers.e (t : TplT tab (line_Numbers.S).args) : (line_Numbers.S).fn t = Dfn tt [line_Number.S] (line_Numbers.S) (codeOf Tryd.f36) line_Numbers.h t := by kernel_rfl
theorem line_Numbers.H : Good Tryd.prog (line_Numbers.S) := good_of ttok mixed Tryd.func36 (by kernel_rfl) (by kernel_rfl) (specs_cons line_Number.H specs_nil) (line_Numbers.e)
def guard_within.A : Tpl := ⟨[.slot 0 (.one (.d (.int .i64))), .slot 1 (.one (.d (.int .i64))), .slot 2 (.one (.d (.int .i64)))], [], 0⟩
def guard_within.R : Tpl := ⟨[.slot 6 (.one (.d .bool))], [], 3⟩
def guard_within.S : Spec tab := ⟨38, guard_within.A, guard_within.R, [6], fun (t : TplT tab guard_within.A) => guard_within t.1 t.2.1 t.2.2⟩
def guard_within.h : Hint := .s .n (.cut ⟨[.slot 6 (.one (.d .bool)), .kr 7 8], [], 67⟩ false [] .n .n)
theorem guard_within.e (t : TplT tab (guard_within.S).args) : (guard_within.S).fn t = Dfn tt [] (guard_within.S) (codeOf Tryd.f38) guard_within.h t := by kernel_rfl
theorem guard_within.H : Good Tryd.prog (guard_within.S) := good_of ttok mixed Tryd.func38 (by kernel_rfl) (by kernel_rfl) specs_nil (guard_within.e)
def guard_Packet_used.A : Tpl := ⟨[.slot 0 (.dat (.st 1))], [], 0⟩
def guard_Packet_used.R : Tpl := ⟨[.slot 37748738 (.dat (.st 1))], [], 1⟩
def guard_Packet_used.S : Spec tab := ⟨50, guard_Packet_used.A, guard_Packet_used.R, [37748738], fun (t : TplT tab guard_Packet_used.A) => guard_Packet_used t⟩
def guard_Packet_used.h : Hint := .s .n (.s .n (.cut ⟨[.cell 705 3 (.d (.int .i64)), .cell 705 4 (.d (.int .i64)), .cell 705 5 (.d (.int .i64)), .cell 705 6 (.d (.int .i64)), .kr 13 37], [(1, .blk 36 8), (65, .blk 36 8), (705, .blk 36 8)], 833⟩ false [] (.s .n (.b (.s .n (.c .n (.s .n (.c .n (.cut ⟨[.slot 31 (.one (.d .bool)), .kr 32 2], [(1, .blk 36 8), (65, .blk 36 8), (705, .blk 36 8)], 1217⟩ false [] .n .n))))))) .n))
theorem guard_Packet_used.e (t : TplT tab (guard_Packet_used.S).args) : (guard_Packet_used.S).fn t = Dfn tt [] (guard_Packet_used.S) (codeOf Tryd.f50) guard_Packet_used.h t := by kernel_rfl
theorem guard_Packet_used.H : Good Tryd.prog (guard_Packet_used.S) := good_of ttok mixed Tryd.func50 (by kernel_rfl) (by kernel_rfl) specs_nil (guard_Packet_used.e)
def guard_Packet_check.A : Tpl := ⟨[.slot 0 (.dat (.st 1))], [], 0⟩
def guard_Packet_check.R : Tpl := ⟨[.slot 2 (.one (.d (.int .i64)))], [], 1⟩
def guard_Packet_check.S : Spec tab := ⟨33, guard_Packet_check.A, guard_Packet_check.R, [2], fun (t : TplT tab guard_Packet_check.A) => guard_Packet_check t⟩
def guard_Packet_check.h : Hint := .s .n (.s (.b (.s (.r [(2, 0)]) (.c .n (.cut ⟨[.slot 8 (.one (.d .bool)), .kr 9 40], [(1, .blk 36 8)], 449⟩ false [] (.r [(2, 0), (7, 0), (13, 0), (19, 0), (25, 0), (31, 0), (37, 0)]) (.c .n (.cut ⟨[.slot 49 (.one (.d .bool)), .kr 50 14], [(1, .blk 36 8)], 451⟩ false [] (.r [(2, 1)]) .n)))))) .n)
theorem guard_Packet_check.e (t : TplT tab (guard_Packet_check.S).args) : (guard_Packet_check.S).fn t = Dfn tt [guard_within.S, guard_Packet_used.S] (guard_Packet_check.S) (codeOf Tryd.f33) guard_Packet_check.h t := by kernel_rfl
theorem guard_Packet_check.H : Good Tryd.prog (guard_Packet_check.S) := good_of ttok mixed Tryd.func33 (by kernel_rfl) (by kernel_rfl) (specs_cons guard_within.H (specs_cons guard_Packet_used.H specs_nil)) (guard_Packet_check.e)
def guard_Unpack.A : Tpl := ⟨[.slot 0 (.one (.ks (⟨#[]⟩ : ByteArray)))], [], 0⟩
def guard_Unpack.R : Tpl := ⟨[.slot 3 (.one (.d (.int .i64))), .slot 37748738 (.dat (.st 1))], [], 1⟩
def guard_Unpack.S : Spec tab := ⟨14, guard_Unpack.A, guard_Unpack.R, [37748738, 3], fun _ => guard_Unpack⟩
def guard_Unpack.h : Hint := .s .n (.s (.r [(1, 0), (2, 1)]) (.s (.cut ⟨[.slot 20 (.one (.d .bool)), .kr 14 6], [(1, .blk 36 8), (258, .arr (.int .i64))], 641⟩ false [] .n .n) (.s .n (.s (.s (.r [(1, 2)]) .n) .n))))
theorem guard_Unpack.e (t : TplT tab (guard_Unpack.S).args) : (guard_Unpack.S).fn t = Dfn tt [strings_Split.S, line_Numbers.S, guard_Packet_check.S] (guard_Unpack.S) (codeOf Tryd.f14) guard_Unpack.h t := by kernel_rfl
theorem guard_Unpack.H : Good Tryd.prog (guard_Unpack.S) := good_of ttok mixed Tryd.func14 (by kernel_rfl) (by kernel_rfl) (specs_cons strings_Split.H (specs_cons line_Numbers.H (specs_cons guard_Packet_check.H specs_nil))) (guard_Unpack.e)
def fishkeep1_awakeGuard.A : Tpl := ⟨[], [], 0⟩
def fishkeep1_awakeGuard.R : Tpl := ⟨[.slot 0 (.one (.d .bool))], [], 0⟩
def fishkeep1_awakeGuard.S : Spec tab := ⟨8, fishkeep1_awakeGuard.A, fishkeep1_awakeGuard.R, [0], fun _ => fishkeep1_awakeGuard⟩
def fishkeep1_awakeGuard.h : Hint := .s .n (.s (.r [(0, 0)]) .n)
theorem fishkeep1_awakeGuard.e (t : TplT tab (fishkeep1_awakeGuard.S).args) : (fishkeep1_awakeGuard.S).fn t = Dfn tt [guard_Unpack.S] (fishkeep1_awakeGuard.S) (codeOf Tryd.f8) fishkeep1_awakeGuard.h t := by kernel_rfl
theorem fishkeep1_awakeGuard.H : Good Tryd.prog (fishkeep1_awakeGuard.S) := good_of ttok mixed Tryd.func8 (by kernel_rfl) (by kernel_rfl) (specs_cons guard_Unpack.H specs_nil) (fishkeep1_awakeGuard.e)
def guard_Telegram_check.A : Tpl := ⟨[.slot 0 (.dat (.st 0))], [], 0⟩
def guard_Telegram_check.R : Tpl := ⟨[.slot 2 (.one (.d (.int .i64)))], [], 1⟩
def guard_Telegram_check.S : Spec tab := ⟨30, guard_Telegram_check.A, guard_Telegram_check.R, [2], fun (t : TplT tab guard_Telegram_check.A) => guard_Telegram_check t⟩
def guard_Telegram_check.h : Hint := .s .n (.s (.cut ⟨[.slot 18 (.one (.d .bool)), .kr 3 15], [(1, .blk 23 3)], 129⟩ false [] (.r [(2, 0), (7, 0), (13, 0)]) .n) .n)
theorem guard_Telegram_check.e (t : TplT tab (guard_Telegram_check.S).args) : (guard_Telegram_check.S).fn t = Dfn tt [guard_within.S] (guard_Telegram_check.S) (codeOf Tryd.f30) guard_Telegram_check.h t := by kernel_rfl
theorem guard_Telegram_check.H : Good Tryd.prog (guard_Telegram_check.S) := good_of ttok mixed Tryd.func30 (by kernel_rfl) (by kernel_rfl) (specs_cons guard_within.H specs_nil) (guard_Telegram_check.e)
def guard_Sum.A : Tpl := ⟨[.slot 0 (.one (.d (.sl (.int .u8))))], [], 0⟩
def guard_Sum.R : Tpl := ⟨[.slot 2 (.one (.d (.int .i64)))], [], 1⟩
def guard_Sum.S : Spec tab := ⟨31, guard_Sum.A, guard_Sum.R, [2], fun (t : TplT tab guard_Sum.A) => guard_Sum t⟩
def guard_Sum.h : Hint := .s .n (.s .n (.s (.s .n (.rg ⟨[.slot 3 (.one (.d (.int .u16))), .kr 5 2, .kr 11 18], [], 321⟩ false (.b (.s .n (.s .n (.s .n (.lp ⟨[.slot 3 (.one (.d (.int .u16))), .slot 18 (.one (.d (.int .i64))), .kr 6 1, .kr 19 10], [], 964⟩ ⟨[.slot 3 (.one (.d (.int .u16))), .kr 6 1, .kr 18 11], [], 964⟩ false [] (.s .n (.s .n (.cut ⟨[.slot 3 (.one (.d (.int .u16))), .kr 6 1, .kr 20 8], [], 1032⟩ false [] .n .n)))))))))) .n))
theorem guard_Sum.e (t : TplT tab (guard_Sum.S).args) : (guard_Sum.S).fn t = Dfn tt [] (guard_Sum.S) (codeOf Tryd.f31) guard_Sum.h t := by kernel_rfl
theorem guard_Sum.H : Good Tryd.prog (guard_Sum.S) := good_of ttok mixed Tryd.func31 (by kernel_rfl) (by kernel_rfl) specs_nil (guard_Sum.e)
def guard_Write.A : Tpl := ⟨[.slot 0 (.dat (.st 0))], [], 0⟩
def guard_Write.R : Tpl := ⟨[.slot 2 (.one (.own 1 (.int .u8))), .slot 3 (.one (.d (.int .i64))), .arr 1 (.int .u8) 0], [(1, .arr (.int .u8))], 2⟩
def guard_Write.S : Spec tab := ⟨9, guard_Write.A, guard_Write.R, [2, 3], fun (t : TplT tab guard_Write.A) => guard_Write t⟩
def guard_Write.h : Hint := .s .n (.s (.s (.r [(1, 0)]) .n) (.s .n (.s (.r [(0, 0), (1, 1)]) .n)))
theorem guard_Write.e (t : TplT tab (guard_Write.S).args) : (guard_Write.S).fn t = Dfn tt [guard_Telegram_check.S, guard_Sum.S] (guard_Write.S) (codeOf Tryd.f9) guard_Write.h t := by kernel_rfl
theorem guard_Write.H : Good Tryd.prog (guard_Write.S) := good_of ttok mixed Tryd.func9 (by kernel_rfl) (by kernel_rfl) (specs_cons guard_Telegram_check.H (specs_cons guard_Sum.H specs_nil)) (guard_Write.e)
def guard_Read.A : Tpl := ⟨[.slot 0 (.one (.d (.sl (.int .u8))))], [], 0⟩
def guard_Read.R : Tpl := ⟨[.slot 3 (.one (.d (.int .i64))), .slot 24117250 (.dat (.st 0))], [], 1⟩
def guard_Read.S : Spec tab := ⟨10, guard_Read.A, guard_Read.R, [24117250, 3], fun (t : TplT tab guard_Read.A) => guard_Read t⟩
def guard_Read.h : Hint := .s .n (.s (.b (.s .n (.c .n (.s (.r [(2, 0)]) .n)))) (.s .n (.s (.s (.r [(1, 1)]) .n) .n)))
theorem guard_Read.e (t : TplT tab (guard_Read.S).args) : (guard_Read.S).fn t = Dfn tt [guard_Sum.S, guard_Telegram_check.S] (guard_Read.S) (codeOf Tryd.f10) guard_Read.h t := by kernel_rfl
theorem guard_Read.H : Good Tryd.prog (guard_Read.S) := good_of ttok mixed Tryd.func10 (by kernel_rfl) (by kernel_rfl) (specs_cons guard_Sum.H (specs_cons guard_Telegram_check.H specs_nil)) (guard_Read.e)
def slices_Clone_byte_byte_v2.A : Tpl := ⟨[.slot 0 (.one (.d (.nsl (.int .u8))))], [], 0⟩
def slices_Clone_byte_byte_v2.R : Tpl := ⟨[.slot 2 (.one (.own 1 (.int .u8))), .arr 1 (.int .u8) 0], [(1, .arr (.int .u8))], 2⟩
def slices_Clone_byte_byte_v2.S : Spec tab := ⟨11, slices_Clone_byte_byte_v2.A, slices_Clone_byte_byte_v2.R, [2], fun (t : TplT tab slices_Clone_byte_byte_v2.A) => slices_Clone_byte_byte_v2 t⟩
def slices_Clone_byte_byte_v2.h : Hint := .n
theorem slices_Clone_byte_byte_v2.e (t : TplT tab (slices_Clone_byte_byte_v2.S).args) : (slices_Clone_byte_byte_v2.S).fn t = Dfn tt [] (slices_Clone_byte_byte_v2.S) (codeOf Tryd.f11) slices_Clone_byte_byte_v2.h t := by kernel_rfl
theorem slices_Clone_byte_byte_v2.H : Good Tryd.prog (slices_Clone_byte_byte_v2.S) := good_of ttok mixed Tryd.func11 (by kernel_rfl) (by kernel_rfl) specs_nil (slices_Clone_byte_byte_v2.e)
def slices_Clone_byte_byte.A : Tpl := ⟨[.slot 0 (.one (.d (.sl (.int .u8))))], [], 0⟩
def slices_Clone_byte_byte.R : Tpl := ⟨[.slot 2 (.one (.own 1 (.int .u8))), .arr 1 (.int .u8) 0], [(1, .arr (.int .u8))], 2⟩
def slices_Clone_byte_byte.S : Spec tab := ⟨11, slices_Clone_byte_byte.A, slices_Clone_byte_byte.R, [2], fun (t : TplT tab slices_Clone_byte_byte.A) => slices_Clone_byte_byte t⟩
theorem slices_Clone_byte_byte.H : Good Tryd.prog slices_Clone_byte_byte.S := good_nsl (B := tab) (e := (.int .u8)) (RT := ⟨[.slot 2 (.one (.own 1 (.int .u8))), .arr 1 (.int .u8) 0], [(1, .arr (.int .u8))], 2⟩) (fn := slices_Clone_byte_byte_v2) slices_Clone_byte_byte_v2.H (by kernel_rfl)
def slices_Index_int_int.A : Tpl := ⟨[.slot 0 (.one (.d (.sl (.int .i64)))), .slot 1 (.one (.d (.int .i64)))], [], 0⟩
def slices_Index_int_int.R : Tpl := ⟨[.slot 4 (.one (.d (.int .i64)))], [], 2⟩
def slices_Index_int_int.S : Spec tab := ⟨32, slices_Index_int_int.A, slices_Index_int_int.R, [4], fun (t : TplT tab slices_Index_int_int.A) => slices_Index_int_int t.1 t.2⟩
def slices_Index_int_int.h : Hint := .s .n (.s (.s .n (.rg ⟨[.kr 5 1, .kr 10 7], [], 258⟩ true .n)) .n)
theorem slices_Index_int_int.e (t : TplT tab (slices_Index_int_int.S).args) : (slices_Index_int_int.S).fn t = Dfn tt [] (slices_Index_int_int.S) (codeOf Tryd.f32) slices_Index_int_int.h t := by kernel_rfl
theorem slices_Index_int_int.H : Good Tryd.prog (slices_Index_int_int.S) := good_of ttok mixed Tryd.func32 (by kernel_rfl) (by kernel_rfl) specs_nil (slices_Index_int_int.e)
def slices_Contains_int_int.A : Tpl := ⟨[.slot 0 (.one (.d (.sl (.int .i64)))), .slot 1 (.one (.d (.int .i64)))], [], 0⟩
def slices_Contains_int_int.R : Tpl := ⟨[.slot 4 (.one (.d .bool))], [], 2⟩
def slices_Contains_int_int.S : Spec tab := ⟨12, slices_Contains_int_int.A, slices_Contains_int_int.R, [4], fun (t : TplT tab slices_Contains_int_int.A) => slices_Contains_int_int t.1 t.2⟩
def slices_Contains_int_int.h : Hint := .s .n (.s (.r [(2, 0)]) .n)
theorem slices_Contains_int_int.e (t : TplT tab (slices_Contains_int_int.S).args) : (slices_Contains_int_int.S).fn t = Dfn tt [slices_Index_int_int.S] (slices_Contains_int_int.S) (codeOf Tryd.f12) slices_Contains_int_int.h t := by kernel_rfl
theorem slices_Contains_int_int.H : Good Tryd.prog (slices_Contains_int_int.S) := good_of ttok mixed Tryd.func12 (by kernel_rfl) (by kernel_rfl) (specs_cons slices_Index_int_int.H specs_nil) (slices_Contains_int_int.e)
def fishkeep1_GuardFlips.A : Tpl := ⟨[.slot 0 (.dat (.st 0)), .slot 1 (.one (.d (.sl (.int .i64))))], [], 0⟩
def fishkeep1_GuardFlips.R : Tpl := ⟨[.slot 4 (.one (.d .bool))], [], 2⟩
def fishkeep1_GuardFlips.S : Spec tab := ⟨3, fishkeep1_GuardFlips.A, fishkeep1_GuardFlips.R, [4], fun (t : TplT tab fishkeep1_GuardFlips.A) => fishkeep1_GuardFlips t.1 t.2⟩
def fishkeep1_GuardFlips.h : Hint := .s .n (.s (.s (.r [(0, 0)]) .n) (.s (.r [(1, 1)]) (.s .n (.s (.r [(1, 2)]) (.s (.cut ⟨[.slot 39 (.one (.d .bool)), .kr 28 11], [(2, .blk 23 3), (1154, .blk 23 3)], 1346⟩ false [] .n .n) (.s (.r [(1, 3)]) (.s (.s .n (.rg ⟨[.arr 1413 (.int .u8) 0, .kr 9 2, .kr 46 26], [(2, .blk 23 3), (1154, .blk 23 3), (1413, .arr (.int .u8))], 1732⟩ true (.b (.s .n (.s (.cut ⟨[.slot 61 (.one (.d .bool)), .kr 49 12], [(2, .blk 23 3), (1154, .blk 23 3), (1413, .arr (.int .u8))], 2055⟩ false [] (.r [(11, 4)]) .n) .n))))) (.s (.cut ⟨[.slot 80 (.one (.d .bool)), .kr 73 7], [(2, .blk 23 3), (1154, .blk 23 3), (1413, .arr (.int .u8))], 1735⟩ false [] .n .n) (.s (.r [(1, 2)]) .n)))))))))
theorem fishkeep1_GuardFlips.e (t : TplT tab (fishkeep1_GuardFlips.S).args) : (fishkeep1_GuardFlips.S).fn t = Dfn tt [fishkeep1_awakeGuard.S, guard_Write.S, guard_Read.S, slices_Clone_byte_byte.S, slices_Contains_int_int.S] (fishkeep1_GuardFlips.S) (codeOf Tryd.f3) fishkeep1_GuardFlips.h t := by kernel_rfl
theorem fishkeep1_GuardFlips.H : Good Tryd.prog (fishkeep1_GuardFlips.S) := good_of ttok mixed Tryd.func3 (by kernel_rfl) (by kernel_rfl) (specs_cons fishkeep1_awakeGuard.H (specs_cons guard_Write.H (specs_cons guard_Read.H (specs_cons slices_Clone_byte_byte.H (specs_cons slices_Contains_int_int.H specs_nil))))) (fishkeep1_GuardFlips.e)
end Hd
