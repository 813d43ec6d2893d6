/- Each call returns what its plain function gives. Printed by a tool. -/
import Derived.Test.YtoamdmkakblnnaaDoorZT
set_option linter.unusedVariables false
set_option linter.unusedSimpArgs false
set_option maxRecDepth 100000
set_option maxHeartbeats 4000000
namespace Hd
open Go Hk Go.Proofs
def internal_stringslite_HasSuffix.A : Tpl := ⟨[.slot 0 (.one (.ks (⟨#[120]⟩ : ByteArray))), .slot 1 (.one (.ks (⟨#[10]⟩ : ByteArray)))], [], 0⟩
def internal_stringslite_HasSuffix.R : Tpl := ⟨[.slot 4 (.one (.kb false))], [], 2⟩
def internal_stringslite_HasSuffix.S : Spec tab := ⟨65, internal_stringslite_HasSuffix.A, internal_stringslite_HasSuffix.R, [4], fun _ => internal_stringslite_HasSuffix⟩
def internal_stringslite_HasSuffix.h : Hint := .s .n (.cut ⟨[.slot 4 (.one (.kb false)), .kr 5 16], [], 66⟩ false [] .n .n)
theorem internal_stringslite_HasSuffix.e (t : TplT tab (internal_stringslite_HasSuffix.S).args) : (internal_stringslite_HasSuffix.S).fn t = Dfn tt [] (internal_stringslite_HasSuffix.S) (codeOf Tryd.f65) internal_stringslite_HasSuffix.h t := by kernel_rfl
theorem internal_stringslite_HasSuffix.H : Good Tryd.prog (internal_stringslite_HasSuffix.S) := good_of ttok mixed Tryd.func65 (by kernel_rfl) (by kernel_rfl) specs_nil (internal_stringslite_HasSuffix.e)
def internal_stringslite_CutSuffix.A : Tpl := ⟨[.slot 0 (.one (.ks (⟨#[120]⟩ : ByteArray))), .slot 1 (.one (.ks (⟨#[10]⟩ : ByteArray)))], [], 0⟩
def internal_stringslite_CutSuffix.R : Tpl := ⟨[.slot 4 (.one (.ks (⟨#[120]⟩ : ByteArray))), .slot 5 (.one (.kb false))], [], 2⟩
def internal_stringslite_CutSuffix.S : Spec tab := ⟨58, internal_stringslite_CutSuffix.A, internal_stringslite_CutSuffix.R, [4, 5], fun _ => internal_stringslite_CutSuffix⟩
def internal_stringslite_CutSuffix.h : Hint := .s .n (.s (.s (.r [(2, 0)]) .n) .n)
theorem internal_stringslite_CutSuffix.e (t : TplT tab (internal_stringslite_CutSuffix.S).args) : (internal_stringslite_CutSuffix.S).fn t = Dfn tt [internal_stringslite_HasSuffix.S] (internal_stringslite_CutSuffix.S) (codeOf Tryd.f58) internal_stringslite_CutSuffix.h t := by kernel_rfl
theorem internal_stringslite_CutSuffix.H : Good Tryd.prog (internal_stringslite_CutSuffix.S) := good_of ttok mixed Tryd.func58 (by kernel_rfl) (by kernel_rfl) (specs_cons internal_stringslite_HasSuffix.H specs_nil) (internal_stringslite_CutSuffix.e)
def strings_CutSuffix.A : Tpl := ⟨[.slot 0 (.one (.ks (⟨#[120]⟩ : ByteArray))), .slot 1 (.one (.ks (⟨#[10]⟩ : ByteArray)))], [], 0⟩
def strings_CutSuffix.R : Tpl := ⟨[.slot 4 (.one (.ks (⟨#[120]⟩ : ByteArray))), .slot 5 (.one (.kb false))], [], 2⟩
def strings_CutSuffix.S : Spec tab := ⟨45, strings_CutSuffix.A, strings_CutSuffix.R, [4, 5], fun _ => strings_CutSuffix⟩
def strings_CutSuffix.h : Hint := .s .n (.s (.r [(2, 0)]) .n)
theorem strings_CutSuffix.e (t : TplT tab (strings_CutSuffix.S).args) : (strings_CutSuffix.S).fn t = Dfn tt [internal_stringslite_CutSuffix.S] (strings_CutSuffix.S) (codeOf Tryd.f45) strings_CutSuffix.h t := by kernel_rfl
theorem strings_CutSuffix.H : Good Tryd.prog (strings_CutSuffix.S) := good_of ttok mixed Tryd.func45 (by kernel_rfl) (by kernel_rfl) (specs_cons internal_stringslite_CutSuffix.H specs_nil) (strings_CutSuffix.e)
def strings_Split.A : Tpl := ⟨[.slot 0 (.one (.d .str)), .slot 1 (.one (.ks (⟨#[10]⟩ : ByteArray)))], [], 0⟩
def strings_Split.R : Tpl := ⟨[.slot 4 (.one (.own 2 .str)), .arr 2 .str 2], [(2, .arr .str)], 3⟩
def strings_Split.S : Spec tab := ⟨46, strings_Split.A, strings_Split.R, [4], fun (t : ByteArray) => ssplit 10 t⟩
theorem strings_Split.H : Good Tryd.prog strings_Split.S := split_good (B := tab) Tryd.lays146 (by kernel_rfl) (by kernel_rfl) 10 4
def strings_Split_v2.A : Tpl := ⟨[.slot 0 (.one (.d .str)), .slot 1 (.one (.ks (⟨#[32]⟩ : ByteArray)))], [], 0⟩
def strings_Split_v2.R : Tpl := ⟨[.slot 4 (.one (.own 2 .str)), .arr 2 .str 2], [(2, .arr .str)], 3⟩
def strings_Split_v2.S : Spec tab := ⟨46, strings_Split_v2.A, strings_Split_v2.R, [4], fun (t : ByteArray) => ssplit 32 t⟩
theorem strings_Split_v2.H : Good Tryd.prog strings_Split_v2.S := split_good (B := tab) Tryd.lays146 (by kernel_rfl) (by kernel_rfl) 32 4
def line_Lines.A : Tpl := ⟨[.slot 0 (.one (.ks (⟨#[120]⟩ : ByteArray)))], [], 0⟩
def line_Lines.R : Tpl := ⟨[.slot 2 (.one (.own 1 (.sl .str))), .slot 3 (.one (.kb false)), .arr 1 (.sl .str) 0], [(1, .arr (.sl .str))], 2⟩
def line_Lines.S : Spec tab := ⟨28, line_Lines.A, line_Lines.R, [2, 3], fun _ => line_Lines⟩
def line_Lines.h : Hint := .s .n (.s .n (.s (.r [(1, 0)]) (.s .n (.s (.s (.r [(1, 1)]) (.rg ⟨[.slot 6 (.one (.own 1025 (.sl .str))), .arr 1025 (.sl .str) 0, .kr 8 1, .kr 21 7], [(833, .arr .str), (1025, .arr (.sl .str))], 1026⟩ false (.b (.s .n (.r [(2, 2)]))))) .n))))
theorem line_Lines.e (t : TplT tab (line_Lines.S).args) : (line_Lines.S).fn t = Dfn tt [strings_CutSuffix.S, strings_Split.S, strings_Split_v2.S] (line_Lines.S) (codeOf Tryd.f28) line_Lines.h t := by kernel_rfl
theorem line_Lines.H : Good Tryd.prog (line_Lines.S) := good_of ttok mixed Tryd.func28 (by kernel_rfl) (by kernel_rfl) (specs_cons strings_CutSuffix.H (specs_cons strings_Split.H (specs_cons strings_Split_v2.H specs_nil))) (line_Lines.e)
def line_Read.A : Tpl := ⟨[.slot 0 (.one (.ks (⟨#[120]⟩ : ByteArray)))], [], 0⟩
def line_Read.R : Tpl := ⟨[.slot 3 (.one (.ki .i64 10)), .slot 29360130 (.dat (.st 4))], [], 1⟩
def line_Read.S : Spec tab := ⟨15, line_Read.A, line_Read.R, [29360130, 3], fun _ => line_Read⟩
def line_Read.h : Hint := .s .n (.s .n (.s (.r [(1, 0)]) .n))
theorem line_Read.e (t : TplT tab (line_Read.S).args) : (line_Read.S).fn t = Dfn tt [line_Lines.S] (line_Read.S) (codeOf Tryd.f15) line_Read.h t := by kernel_rfl
theorem line_Read.H : Good Tryd.prog (line_Read.S) := good_of ttok mixed Tryd.func15 (by kernel_rfl) (by kernel_rfl) (specs_cons line_Lines.H specs_nil) (line_Read.e)
def fishkeep1_awakeLine.A : Tpl := ⟨[], [], 0⟩
def fishkeep1_awakeLine.R : Tpl := ⟨[.slot 0 (.one (.kb true))], [], 0⟩
def fishkeep1_awakeLine.S : Spec tab := ⟨6, fishkeep1_awakeLine.A, fishkeep1_awakeLine.R, [0], fun _ => fishkeep1_awakeLine⟩
def fishkeep1_awakeLine.h : Hint := .s .n (.s (.r [(0, 0)]) .n)
theorem fishkeep1_awakeLine.e (t : TplT tab (fishkeep1_awakeLine.S).args) : (fishkeep1_awakeLine.S).fn t = Dfn tt [line_Read.S] (fishkeep1_awakeLine.S) (codeOf Tryd.f6) fishkeep1_awakeLine.h t := by kernel_rfl
theorem fishkeep1_awakeLine.H : Good Tryd.prog (fishkeep1_awakeLine.S) := good_of ttok mixed Tryd.func6 (by kernel_rfl) (by kernel_rfl) (specs_cons line_Read.H specs_nil) (fishkeep1_awakeLine.e)
def line_name.A : Tpl := ⟨[.slot 0 (.one (.d .str))], [], 0⟩
def line_name.R : Tpl := ⟨[.slot 2 (.one (.d .bool))], [], 1⟩
def line_name.S : Spec tab := ⟨30, line_name.A, line_name.R, [2], fun (t : TplT tab line_name.A) => line_name t⟩
def line_name.h : Hint := .s .n (.s (.s .n (.rg ⟨[.kr 4 1, .kr 10 8], [], 321⟩ true (.b (.s .n (.cut ⟨[.slot 17 (.one (.d .bool)), .kr 12 5], [], 515⟩ false [] .n .n))))) (.cut ⟨[.slot 2 (.one (.d .bool)), .kr 19 8], [], 323⟩ false [] .n .n))
theorem line_name.e (t : TplT tab (line_name.S).args) : (line_name.S).fn t = Dfn tt [] (line_name.S) (codeOf Tryd.f30) line_name.h t := by kernel_rfl
theorem line_name.H : Good Tryd.prog (line_name.S) := good_of ttok mixed Tryd.func30 (by kernel_rfl) (by kernel_rfl) specs_nil (line_name.e)
def slices_Index_string_string.A : Tpl := ⟨[.slot 0 (.one (.d (.sl .str))), .slot 1 (.one (.d .str))], [], 0⟩
def slices_Index_string_string.R : Tpl := ⟨[.slot 4 (.one (.d (.int .i64)))], [], 2⟩
def slices_Index_string_string.S : Spec tab := ⟨48, slices_Index_string_string.A, slices_Index_string_string.R, [4], fun (t : TplT tab slices_Index_string_string.A) => slices_Index_string_string t.1 t.2⟩
def slices_Index_string_string.h : Hint := .s .n (.s (.s .n (.rg ⟨[.kr 5 1, .kr 10 7], [], 258⟩ true .n)) .n)
theorem slices_Index_string_string.e (t : TplT tab (slices_Index_string_string.S).args) : (slices_Index_string_string.S).fn t = Dfn tt [] (slices_Index_string_string.S) (codeOf Tryd.f48) slices_Index_string_string.h t := by kernel_rfl
theorem slices_Index_string_string.H : Good Tryd.prog (slices_Index_string_string.S) := good_of ttok mixed Tryd.func48 (by kernel_rfl) (by kernel_rfl) specs_nil (slices_Index_string_string.e)
def slices_Contains_string_string.A : Tpl := ⟨[.slot 0 (.one (.d (.sl .str))), .slot 1 (.one (.d .str))], [], 0⟩
def slices_Contains_string_string.R : Tpl := ⟨[.slot 4 (.one (.d .bool))], [], 2⟩
def slices_Contains_string_string.S : Spec tab := ⟨31, slices_Contains_string_string.A, slices_Contains_string_string.R, [4], fun (t : TplT tab slices_Contains_string_string.A) => slices_Contains_string_string t.1 t.2⟩
def slices_Contains_string_string.h : Hint := .s .n (.s (.r [(2, 0)]) .n)
theorem slices_Contains_string_string.e (t : TplT tab (slices_Contains_string_string.S).args) : (slices_Contains_string_string.S).fn t = Dfn tt [slices_Index_string_string.S] (slices_Contains_string_string.S) (codeOf Tryd.f31) slices_Contains_string_string.h t := by kernel_rfl
theorem slices_Contains_string_string.H : Good Tryd.prog (slices_Contains_string_string.S) := good_of ttok mixed Tryd.func31 (by kernel_rfl) (by kernel_rfl) (specs_cons slices_Index_string_string.H specs_nil) (slices_Contains_string_string.e)
def line_ends.A : Tpl := ⟨[.slot 0 (.one (.d (.int .i64)))], [], 0⟩
def line_ends.R : Tpl := ⟨[.slot 2 (.one (.d (.int .i64)))], [], 1⟩
def line_ends.S : Spec tab := ⟨37, line_ends.A, line_ends.R, [2], fun (t : TplT tab line_ends.A) => line_ends t⟩
def line_ends.h : Hint := .n
theorem line_ends.e (t : TplT tab (line_ends.S).args) : (line_ends.S).fn t = Dfn tt [] (line_ends.S) (codeOf Tryd.f37) line_ends.h t := by kernel_rfl
theorem line_ends.H : Good Tryd.prog (line_ends.S) := good_of ttok mixed Tryd.func37 (by kernel_rfl) (by kernel_rfl) specs_nil (line_ends.e)
def line_within.A : Tpl := ⟨[.slot 0 (.one (.d (.int .i64))), .slot 1 (.one (.d (.int .i64))), .slot 2 (.one (.d (.int .i64)))], [], 0⟩
def line_within.R : Tpl := ⟨[.slot 6 (.one (.d .bool))], [], 3⟩
def line_within.S : Spec tab := ⟨36, line_within.A, line_within.R, [6], fun (t : TplT tab line_within.A) => line_within t.1 t.2.1 t.2.2⟩
def line_within.h : Hint := .s .n (.cut ⟨[.slot 6 (.one (.d .bool)), .kr 7 8], [], 67⟩ false [] .n .n)
theorem line_within.e (t : TplT tab (line_within.S).args) : (line_within.S).fn t = Dfn tt [] (line_within.S) (codeOf Tryd.f36) line_within.h t := by kernel_rfl
theorem line_within.H : Good Tryd.prog (line_within.S) := good_of ttok mixed Tryd.func36 (by kernel_rfl) (by kernel_rfl) specs_nil (line_within.e)
def line_checkSection.A : Tpl := ⟨[.slot 0 (.dat (.st 0)), .slot 1 (.one (.d (.int .i64)))], [], 0⟩
def line_checkSection.R : Tpl := ⟨[.slot 4 (.one (.d (.int .i64)))], [], 2⟩
def line_checkSection.S : Spec tab := ⟨32, line_checkSection.A, line_checkSection.R, [4], fun (t : TplT tab line_checkSection.A) => line_checkSection t.1 t.2⟩
def line_checkSection.h : Hint := .s .n (.s .n (.s (.b (.s (.r [(2, 0)]) (.c .n (.cut ⟨[.slot 22 (.one (.d .bool)), .kr 23 16], [(2, .blk 66 7)], 1218⟩ false [] (.r [(2, 1), (7, 1), (13, 1)]) (.c .n (.cut ⟨[.slot 39 (.one (.d .bool)), .kr 40 19], [(2, .blk 66 7)], 1220⟩ false [] (.r [(6, 1), (15, 1)]) (.c .n (.cut ⟨[.slot 59 (.one (.d .bool)), .kr 60 24], [(2, .blk 66 7)], 1222⟩ false [] .n .n)))))))) .n))
theorem line_checkSection.e (t : TplT tab (line_checkSection.S).args) : (line_checkSection.S).fn t = Dfn tt [line_ends.S, line_within.S] (line_checkSection.S) (codeOf Tryd.f32) line_checkSection.h t := by kernel_rfl
theorem line_checkSection.H : Good Tryd.prog (line_checkSection.S) := good_of ttok mixed Tryd.func32 (by kernel_rfl) (by kernel_rfl) (specs_cons line_ends.H (specs_cons line_within.H specs_nil)) (line_checkSection.e)
def line_has.A : Tpl := ⟨[.slot 0 (.dat (.st 4)), .slot 1 (.dat (.st 5))], [], 0⟩
def line_has.R : Tpl := ⟨[.slot 4 (.one (.d .bool))], [], 2⟩
def line_has.S : Spec tab := ⟨17, line_has.A, line_has.R, [4], fun (t : TplT tab line_has.A) => line_has t.1 t.2⟩
def line_has.h : Hint := .s .n (.cut ⟨[.slot 4 (.one (.d .bool)), .kr 5 21], [(2, .blk 28 5), (66, .blk 62 2)], 194⟩ false [] (.r [(6, 0), (17, 1), (19, 0)]) .n)
theorem line_has.e (t : TplT tab (line_has.S).args) : (line_has.S).fn t = Dfn tt [line_within.S, line_ends.S] (line_has.S) (codeOf Tryd.f17) line_has.h t := by kernel_rfl
theorem line_has.H : Good Tryd.prog (line_has.S) := good_of ttok mixed Tryd.func17 (by kernel_rfl) (by kernel_rfl) (specs_cons line_within.H (specs_cons line_ends.H specs_nil)) (line_has.e)
def cmp_isNaN_int.A : Tpl := ⟨[.slot 0 (.one (.d (.int .i64)))], [], 0⟩
def cmp_isNaN_int.R : Tpl := ⟨[.slot 2 (.one (.d .bool))], [], 1⟩
def cmp_isNaN_int.S : Spec tab := ⟨61, cmp_isNaN_int.A, cmp_isNaN_int.R, [2], fun (t : TplT tab cmp_isNaN_int.A) => cmp_isNaN_int t⟩
def cmp_isNaN_int.h : Hint := .n
theorem cmp_isNaN_int.e (t : TplT tab (cmp_isNaN_int.S).args) : (cmp_isNaN_int.S).fn t = Dfn tt [] (cmp_isNaN_int.S) (codeOf Tryd.f61) cmp_isNaN_int.h t := by kernel_rfl
theorem cmp_isNaN_int.H : Good Tryd.prog (cmp_isNaN_int.S) := good_of ttok mixed Tryd.func61 (by kernel_rfl) (by kernel_rfl) specs_nil (cmp_isNaN_int.e)
def cmp_Compare_int.A : Tpl := ⟨[.slot 0 (.one (.d (.int .i64))), .slot 1 (.one (.d (.int .i64)))], [], 0⟩
def cmp_Compare_int.R : Tpl := ⟨[.slot 4 (.one (.d (.int .i64)))], [], 2⟩
def cmp_Compare_int.S : Spec tab := ⟨50, cmp_Compare_int.A, cmp_Compare_int.R, [4], fun (t : TplT tab cmp_Compare_int.A) => cmp_Compare_int t.1 t.2⟩
def cmp_Compare_int.h : Hint := .s .n (.s (.r [(1, 0)]) (.s (.r [(1, 0)]) .n))
theorem cmp_Compare_int.e (t : TplT tab (cmp_Compare_int.S).args) : (cmp_Compare_int.S).fn t = Dfn tt [cmp_isNaN_int.S] (cmp_Compare_int.S) (codeOf Tryd.f50) cmp_Compare_int.h t := by kernel_rfl
theorem cmp_Compare_int.H : Good Tryd.prog (cmp_Compare_int.S) := good_of ttok mixed Tryd.func50 (by kernel_rfl) (by kernel_rfl) (specs_cons cmp_isNaN_int.H specs_nil) (cmp_Compare_int.e)
def cmp_Or_int.A : Tpl := ⟨[.slot 0 (.one (.d (.sl (.int .i64))))], [], 0⟩
def cmp_Or_int.R : Tpl := ⟨[.slot 2 (.one (.d (.int .i64)))], [], 1⟩
def cmp_Or_int.S : Spec tab := ⟨49, cmp_Or_int.A, cmp_Or_int.R, [2], fun (t : TplT tab cmp_Or_int.A) => cmp_Or_int t⟩
def cmp_Or_int.h : Hint := .s .n (.s .n (.s (.s .n (.rg ⟨[.kr 5 1, .kr 10 5], [], 321⟩ true .n)) .n))
theorem cmp_Or_int.e (t : TplT tab (cmp_Or_int.S).args) : (cmp_Or_int.S).fn t = Dfn tt [] (cmp_Or_int.S) (codeOf Tryd.f49) cmp_Or_int.h t := by kernel_rfl
theorem cmp_Or_int.H : Good Tryd.prog (cmp_Or_int.S) := good_of ttok mixed Tryd.func49 (by kernel_rfl) (by kernel_rfl) specs_nil (cmp_Or_int.e)
def line_checkLinks.A : Tpl := ⟨[.slot 0 (.dat (.st 4))], [], 0⟩
def line_checkLinks.R : Tpl := ⟨[.slot 2 (.one (.d (.int .i64)))], [], 1⟩
def line_checkLinks.S : Spec tab := ⟨33, line_checkLinks.A, line_checkLinks.R, [2], fun (t : TplT tab line_checkLinks.A) => line_checkLinks t⟩
def line_checkLinks.h : Hint := .s .n (.s .n (.s (.s .n (.rg ⟨[.mp 129 (.st 5) .bool, .kr 4 5, .kr 15 69], [(1, .blk 28 5), (129, .mp (.st 5) .bool)], 513⟩ true (.b (.s .n (.cut ⟨[.slot 6 (.one (.ptr 900 0)), .slot 7 (.one (.ptr 901 0)), .blk 900 62 2, .cell 900 0 (.d (.int .i64)), .cell 900 1 (.d (.int .i64)), .blk 901 62 2, .cell 901 0 (.d (.int .i64)), .cell 901 1 (.d (.int .i64)), .kr 18 10], [(1, .blk 28 5), (129, .mp (.st 5) .bool), (708, .blk 94 4), (900, .blk 62 2), (901, .blk 62 2)], 902⟩ false [] .n (.s (.b (.cut ⟨[.slot 28 (.one (.d .bool)), .kr 29 10], [(1, .blk 28 5), (129, .mp (.st 5) .bool), (708, .blk 94 4), (900, .blk 62 2), (901, .blk 62 2)], 911⟩ false [] (.r [(2, 0), (7, 0)]) .n)) (.cut ⟨[.kr 8 1, .kr 51 21], [(1, .blk 28 5), (129, .mp (.st 5) .bool), (708, .blk 94 4), (900, .blk 62 2), (901, .blk 62 2)], 1681⟩ true [] (.s .n (.c (.s .n (.s (.r [(4, 1), (9, 1), (11, 2)]) .n)) .n)) (.s (.cut ⟨[.slot 79 (.one (.d .bool)), .kr 72 7], [(1, .blk 28 5), (129, .mp (.st 5) .bool), (708, .blk 94 4), (900, .blk 62 2), (901, .blk 62 2)], 1683⟩ false [] .n .n) .n)))))))) .n))
theorem line_checkLinks.e (t : TplT tab (line_checkLinks.S).args) : (line_checkLinks.S).fn t = Dfn tt [line_has.S, cmp_Compare_int.S, cmp_Or_int.S] (line_checkLinks.S) (codeOf Tryd.f33) line_checkLinks.h t := by kernel_rfl
theorem line_checkLinks.H : Good Tryd.prog (line_checkLinks.S) := good_of ttok mixed Tryd.func33 (by kernel_rfl) (by kernel_rfl) (specs_cons line_has.H (specs_cons cmp_Compare_int.H (specs_cons cmp_Or_int.H specs_nil))) (line_checkLinks.e)
def line_joined.A : Tpl := ⟨[.slot 0 (.dat (.st 4)), .slot 1 (.dat (.st 5))], [], 0⟩
def line_joined.R : Tpl := ⟨[.slot 5 (.one (.d .bool)), .slot 65011716 (.dat (.st 5))], [], 2⟩
def line_joined.S : Spec tab := ⟨20, line_joined.A, line_joined.R, [65011716, 5], fun (t : TplT tab line_joined.A) => line_joined t.1 t.2⟩
def line_joined.h : Hint := .s .n (.s (.s .n (.rg ⟨[.kr 7 1, .kr 13 15, .kr 33 13], [(2, .blk 28 5), (66, .blk 62 2), (130, .blk 62 2)], 514⟩ true (.b (.s .n (.b (.cut ⟨[.slot 15 (.one (.d .bool)), .kr 16 12], [(2, .blk 28 5), (66, .blk 62 2), (130, .blk 62 2), (645, .blk 94 4)], 773⟩ false [] .n (.c .n (.cut ⟨[.slot 33 (.one (.d .bool)), .kr 34 12], [(2, .blk 28 5), (66, .blk 62 2), (130, .blk 62 2), (645, .blk 94 4)], 775⟩ false [] .n .n)))))))) .n)
theorem line_joined.e (t : TplT tab (line_joined.S).args) : (line_joined.S).fn t = Dfn tt [] (line_joined.S) (codeOf Tryd.f20) line_joined.h t := by kernel_rfl
theorem line_joined.H : Good Tryd.prog (line_joined.S) := good_of ttok mixed Tryd.func20 (by kernel_rfl) (by kernel_rfl) specs_nil (line_joined.e)
def line_checkSignals.A : Tpl := ⟨[.slot 0 (.dat (.st 4))], [], 0⟩
def line_checkSignals.R : Tpl := ⟨[.slot 2 (.one (.d (.int .i64)))], [], 1⟩
def line_checkSignals.S : Spec tab := ⟨34, line_checkSignals.A, line_checkSignals.R, [2], fun (t : TplT tab line_checkSignals.A) => line_checkSignals t⟩
def line_checkSignals.h : Hint := .s .n (.s (.s .n (.rg ⟨[.kr 3 6, .kr 14 51], [(1, .blk 28 5)], 385⟩ true (.b (.s .n (.s .n (.s (.s (.r [(2, 0)]) .n) (.s (.s (.r [(2, 1)]) (.cut ⟨[.slot 43 (.one (.d .bool)), .kr 32 11], [(1, .blk 28 5), (579, .blk 77 2), (1091, .blk 62 2), (1859, .blk 62 2)], 2051⟩ false [] .n .n)) (.s .n (.c (.s .n (.s (.r [(4, 2), (9, 2), (11, 3)]) .n)) .n))))))))) .n)
theorem line_checkSignals.e (t : TplT tab (line_checkSignals.S).args) : (line_checkSignals.S).fn t = Dfn tt [line_has.S, line_joined.S, cmp_Compare_int.S, cmp_Or_int.S] (line_checkSignals.S) (codeOf Tryd.f34) line_checkSignals.h t := by kernel_rfl
theorem line_checkSignals.H : Good Tryd.prog (line_checkSignals.S) := good_of ttok mixed Tryd.func34 (by kernel_rfl) (by kernel_rfl) (specs_cons line_has.H (specs_cons line_joined.H (specs_cons cmp_Compare_int.H (specs_cons cmp_Or_int.H specs_nil)))) (line_checkSignals.e)
def line_checkGates.A : Tpl := ⟨[.slot 0 (.dat (.st 4))], [], 0⟩
def line_checkGates.R : Tpl := ⟨[.slot 2 (.one (.d (.int .i64)))], [], 1⟩
def line_checkGates.S : Spec tab := ⟨35, line_checkGates.A, line_checkGates.R, [2], fun (t : TplT tab line_checkGates.A) => line_checkGates t⟩
def line_checkGates.h : Hint := .s .n (.s (.s .n (.rg ⟨[.kr 3 2, .kr 10 41], [(1, .blk 28 5)], 385⟩ true (.b (.s .n (.b (.s (.r [(6, 0)]) (.c .n (.s .n (.c .n (.s (.r [(2, 0)]) (.c .n (.cut ⟨[.slot 36 (.one (.d .bool)), .kr 37 14], [(1, .blk 28 5), (579, .blk 115 2)], 2243⟩ false [] .n .n)))))))))))) .n)
theorem line_checkGates.e (t : TplT tab (line_checkGates.S).args) : (line_checkGates.S).fn t = Dfn tt [line_within.S] (line_checkGates.S) (codeOf Tryd.f35) line_checkGates.h t := by kernel_rfl
theorem line_checkGates.H : Good Tryd.prog (line_checkGates.S) := good_of ttok mixed Tryd.func35 (by kernel_rfl) (by kernel_rfl) (specs_cons line_within.H specs_nil) (line_checkGates.e)
def line_Check.A : Tpl := ⟨[.slot 0 (.dat (.st 4))], [], 0⟩
def line_Check.R : Tpl := ⟨[.slot 2 (.one (.d (.int .i64)))], [], 1⟩
def line_Check.S : Spec tab := ⟨16, line_Check.A, line_Check.R, [2], fun (t : TplT tab line_Check.A) => line_Check t⟩
def line_Check.h : Hint := .s .n (.s (.b (.s .n (.c .n (.cut ⟨[.slot 16 (.one (.d .bool)), .kr 17 28], [(1, .blk 28 5)], 449⟩ false [] .n .n)))) (.s (.s .n (.rg ⟨[.kr 3 2, .kr 50 14], [(1, .blk 28 5)], 707⟩ true (.b (.s .n (.b (.s (.r [(1, 0)]) (.c .n (.s (.r [(5, 1)]) .n)))))))) (.s (.s .n (.rg ⟨[.kr 6 2, .kr 70 9], [(1, .blk 28 5)], 965⟩ true (.b (.s .n (.s (.r [(4, 2)]) .n))))) (.s (.s .n (.un 4 (.s (.s .n (.s .n (.s (.b (.s .n (.s (.r [(2, 3)]) .n))) .n))) (.s (.s .n (.s .n (.s (.b (.s .n (.s (.r [(2, 4)]) .n))) .n))) (.s (.s .n (.s .n (.s (.b (.s .n (.s (.r [(2, 5)]) .n))) .n))) (.s .n .n)))))) .n))))
theorem line_Check.e (t : TplT tab (line_Check.S).args) : (line_Check.S).fn t = Dfn tt [line_name.S, slices_Contains_string_string.S, line_checkSection.S, line_checkLinks.S, line_checkSignals.S, line_checkGates.S] (line_Check.S) (codeOf Tryd.f16) line_Check.h t := by kernel_rfl
theorem line_Check.H : Good Tryd.prog (line_Check.S) := good_of ttok mixed Tryd.func16 (by kernel_rfl) (by kernel_rfl) (specs_cons line_name.H (specs_cons slices_Contains_string_string.H (specs_cons line_checkSection.H (specs_cons line_checkLinks.H (specs_cons line_checkSignals.H (specs_cons line_checkGates.H specs_nil)))))) (line_Check.e)
def line_walk.A : Tpl := ⟨[.slot 0 (.dat (.st 4)), .slot 1 (.dat (.st 5))], [], 0⟩
def line_walk.R : Tpl := ⟨[.slot 4 (.one (.fn 62 2 2)), .clo 2 0 (.ptr 3 0), .clo 2 1 (.ptr 4 0), .blk 3 28 5, .cell 3 0 (.d (.sl .str)), .cell 3 1 (.d (.sl (.st 0))), .cell 3 2 (.d (.sl (.st 1))), .cell 3 3 (.d (.sl (.st 2))), .cell 3 4 (.d (.sl (.st 3))), .blk 4 62 2, .cell 4 0 (.d (.int .i64)), .cell 4 1 (.d (.int .i64))], [(3, .blk 28 5), (4, .blk 62 2)], 5⟩
def line_walk.S : Spec tab := ⟨53, line_walk.A, line_walk.R, [4], fun (t : TplT tab line_walk.A) => line_walk t.1 t.2⟩
def line_walk.h : Hint := .n
theorem line_walk.e (t : TplT tab (line_walk.S).args) : (line_walk.S).fn t = Dfn tt [] (line_walk.S) (codeOf Tryd.f53) line_walk.h t := by kernel_rfl
theorem line_walk.H : Good Tryd.prog (line_walk.S) := good_of ttok mixed Tryd.func53 (by kernel_rfl) (by kernel_rfl) specs_nil (line_walk.e)
def line_outs.A : Tpl := ⟨[.slot 0 (.one (.d (.int .i64))), .slot 1 (.one (.d (.int .i64)))], [], 0⟩
def line_outs.R : Tpl := ⟨[.slot 4 (.one (.own 2 (.int .i64))), .arr 2 (.int .i64) 2], [(2, .arr (.int .i64))], 3⟩
def line_outs.S : Spec tab := ⟨19, line_outs.A, line_outs.R, [4], fun (t : TplT tab line_outs.A) => line_outs t.1 t.2⟩
def line_outs.h : Hint := .s .n (.s (.b (.cut ⟨[.slot 5 (.one (.d .bool)), .kr 6 6], [], 66⟩ false [] .n .n)) .n)
theorem line_outs.e (t : TplT tab (line_outs.S).args) : (line_outs.S).fn t = Dfn tt [] (line_outs.S) (codeOf Tryd.f19) line_outs.h t := by kernel_rfl
theorem line_outs.H : Good Tryd.prog (line_outs.S) := good_of ttok mixed Tryd.func19 (by kernel_rfl) (by kernel_rfl) specs_nil (line_outs.e)
def line_stands_1.A : Tpl := ⟨[.slot 0 (.dat (.st 6)), .slot 1 (.one (.d (.opt (.int .i64))))], [], 0⟩
def line_stands_1.R : Tpl := ⟨[.slot 3 (.one (.d .bool))], [], 2⟩
def line_stands_1.S : Spec tab := ⟨64, line_stands_1.A, line_stands_1.R, [3], fun (t : TplT tab line_stands_1.A) => line_stands_1 t.1 t.2⟩
def line_stands_1.h : Hint := .n
theorem line_stands_1.e (t : TplT tab (line_stands_1.S).args) : (line_stands_1.S).fn t = Dfn tt [] (line_stands_1.S) (codeOf Tryd.f64) line_stands_1.h t := by kernel_rfl
theorem line_stands_1.H : Good Tryd.prog (line_stands_1.S) := good_of ttok mixed Tryd.func64 (by kernel_rfl) (by kernel_rfl) specs_nil (line_stands_1.e)
def slices_IndexFunc_api_Step_api_Step.A : Tpl := ⟨[.slot 0 (.one (.d (.sl (.st 6)))), .slot 1 (.one (.fn 64 0 1)), .clo 0 0 (.d (.opt (.int .i64)))], [], 1⟩
def slices_IndexFunc_api_Step_api_Step.R : Tpl := ⟨[.slot 4 (.one (.d (.int .i64)))], [], 4⟩
def slices_IndexFunc_api_Step_api_Step.S : Spec tab := ⟨72, slices_IndexFunc_api_Step_api_Step.A, slices_IndexFunc_api_Step_api_Step.R, [4], fun (t : TplT tab slices_IndexFunc_api_Step_api_Step.A) => slices_IndexFunc_api_Step_api_Step t.1 t.2⟩
def slices_IndexFunc_api_Step_api_Step.h : Hint := .s .n (.s (.s .n (.rg ⟨[.kr 5 1, .kr 10 7], [], 260⟩ true (.b (.s .n (.s (.r [(5, 0)]) .n))))) .n)
theorem slices_IndexFunc_api_Step_api_Step.e (t : TplT tab (slices_IndexFunc_api_Step_api_Step.S).args) : (slices_IndexFunc_api_Step_api_Step.S).fn t = Dfn tt [line_stands_1.S] (slices_IndexFunc_api_Step_api_Step.S) (codeOf Tryd.f72) slices_IndexFunc_api_Step_api_Step.h t := by kernel_rfl
theorem slices_IndexFunc_api_Step_api_Step.H : Good Tryd.prog (slices_IndexFunc_api_Step_api_Step.S) := good_of ttok mixed Tryd.func72 (by kernel_rfl) (by kernel_rfl) (specs_cons line_stands_1.H specs_nil) (slices_IndexFunc_api_Step_api_Step.e)
def slices_ContainsFunc_api_Step_api_Step.A : Tpl := ⟨[.slot 0 (.one (.d (.sl (.st 6)))), .slot 1 (.one (.fn 64 0 1)), .clo 0 0 (.d (.opt (.int .i64)))], [], 1⟩
def slices_ContainsFunc_api_Step_api_Step.R : Tpl := ⟨[.slot 4 (.one (.d .bool))], [], 4⟩
def slices_ContainsFunc_api_Step_api_Step.S : Spec tab := ⟨63, slices_ContainsFunc_api_Step_api_Step.A, slices_ContainsFunc_api_Step_api_Step.R, [4], fun (t : TplT tab slices_ContainsFunc_api_Step_api_Step.A) => slices_ContainsFunc_api_Step_api_Step t.1 t.2⟩
def slices_ContainsFunc_api_Step_api_Step.h : Hint := .s .n (.s (.r [(2, 0)]) .n)
theorem slices_ContainsFunc_api_Step_api_Step.e (t : TplT tab (slices_ContainsFunc_api_Step_api_Step.S).args) : (slices_ContainsFunc_api_Step_api_Step.S).fn t = Dfn tt [slices_IndexFunc_api_Step_api_Step.S] (slices_ContainsFunc_api_Step_api_Step.S) (codeOf Tryd.f63) slices_ContainsFunc_api_Step_api_Step.h t := by kernel_rfl
theorem slices_ContainsFunc_api_Step_api_Step.H : Good Tryd.prog (slices_ContainsFunc_api_Step_api_Step.S) := good_of ttok mixed Tryd.func63 (by kernel_rfl) (by kernel_rfl) (specs_cons slices_IndexFunc_api_Step_api_Step.H specs_nil) (slices_ContainsFunc_api_Step_api_Step.e)
def line_stands.A : Tpl := ⟨[.slot 0 (.one (.d (.sl (.st 6)))), .slot 1 (.one (.d (.int .i64)))], [], 0⟩
def line_stands.R : Tpl := ⟨[.slot 4 (.one (.d .bool))], [], 2⟩
def line_stands.S : Spec tab := ⟨54, line_stands.A, line_stands.R, [4], fun (t : TplT tab line_stands.A) => line_stands t.1 t.2⟩
def line_stands.h : Hint := .s .n (.s (.r [(2, 0)]) .n)
theorem line_stands.e (t : TplT tab (line_stands.S).args) : (line_stands.S).fn t = Dfn tt [slices_ContainsFunc_api_Step_api_Step.S] (line_stands.S) (codeOf Tryd.f54) line_stands.h t := by kernel_rfl
theorem line_stands.H : Good Tryd.prog (line_stands.S) := good_of ttok mixed Tryd.func54 (by kernel_rfl) (by kernel_rfl) (specs_cons slices_ContainsFunc_api_Step_api_Step.H specs_nil) (line_stands.e)
def line_finder_count.A : Tpl := ⟨[.slot 0 (.one (.ptr 0 0)), .blk 0 104 8, .cell 0 0 (.d (.sl .str)), .cell 0 1 (.d (.sl (.st 0))), .cell 0 2 (.d (.sl (.st 1))), .cell 0 3 (.d (.sl (.st 2))), .cell 0 4 (.d (.sl (.st 3))), .cell 0 5 (.own 1 (.st 7)), .arr 1 (.st 7) 0, .cell 0 6 (.d (.int .i64)), .cell 0 7 (.d .bool)], [(0, .blk 104 8), (1, .arr (.st 7))], 2⟩
def line_finder_count.R : Tpl := ⟨[.cell 0 0 (.d (.sl .str)), .cell 0 1 (.d (.sl (.st 0))), .cell 0 2 (.d (.sl (.st 1))), .cell 0 3 (.d (.sl (.st 2))), .cell 0 4 (.d (.sl (.st 3))), .cell 0 6 (.d (.int .i64)), .cell 0 7 (.d .bool)], [(0, .blk 104 8), (1, .arr (.st 7))], 13⟩
def line_finder_count.S : Spec tab := ⟨55, line_finder_count.A, line_finder_count.R, [], fun (t : TplT tab line_finder_count.A) => line_finder_count t.1 t.2.1 t.2.2.1 t.2.2.2.1 t.2.2.2.2.1 t.2.2.2.2.2.1 t.2.2.2.2.2.2.1 t.2.2.2.2.2.2.2⟩
def line_finder_count.h : Hint := .n
theorem line_finder_count.e (t : TplT tab (line_finder_count.S).args) : (line_finder_count.S).fn t = Dfn tt [] (line_finder_count.S) (codeOf Tryd.f55) line_finder_count.h t := by kernel_rfl
theorem line_finder_count.H : Good Tryd.prog (line_finder_count.S) := good_of ttok mixed Tryd.func55 (by kernel_rfl) (by kernel_rfl) specs_nil (line_finder_count.e)
def slices_Clone_api_Step_api_Step_v2.A : Tpl := ⟨[.slot 0 (.one (.d (.nsl (.st 6))))], [], 0⟩
def slices_Clone_api_Step_api_Step_v2.R : Tpl := ⟨[.slot 2 (.one (.own 1 (.st 6))), .arr 1 (.st 6) 0], [(1, .arr (.st 6))], 2⟩
def slices_Clone_api_Step_api_Step_v2.S : Spec tab := ⟨56, slices_Clone_api_Step_api_Step_v2.A, slices_Clone_api_Step_api_Step_v2.R, [2], fun (t : TplT tab slices_Clone_api_Step_api_Step_v2.A) => slices_Clone_api_Step_api_Step_v2 t⟩
def slices_Clone_api_Step_api_Step_v2.h : Hint := .n
theorem slices_Clone_api_Step_api_Step_v2.e (t : TplT tab (slices_Clone_api_Step_api_Step_v2.S).args) : (slices_Clone_api_Step_api_Step_v2.S).fn t = Dfn tt [] (slices_Clone_api_Step_api_Step_v2.S) (codeOf Tryd.f56) slices_Clone_api_Step_api_Step_v2.h t := by kernel_rfl
theorem slices_Clone_api_Step_api_Step_v2.H : Good Tryd.prog (slices_Clone_api_Step_api_Step_v2.S) := good_of ttok mixed Tryd.func56 (by kernel_rfl) (by kernel_rfl) specs_nil (slices_Clone_api_Step_api_Step_v2.e)
def slices_Clone_api_Step_api_Step.A : Tpl := ⟨[.slot 0 (.one (.d (.sl (.st 6))))], [], 0⟩
def slices_Clone_api_Step_api_Step.R : Tpl := ⟨[.slot 2 (.one (.own 1 (.st 6))), .arr 1 (.st 6) 0], [(1, .arr (.st 6))], 2⟩
def slices_Clone_api_Step_api_Step.S : Spec tab := ⟨56, slices_Clone_api_Step_api_Step.A, slices_Clone_api_Step_api_Step.R, [2], fun (t : TplT tab slices_Clone_api_Step_api_Step.A) => slices_Clone_api_Step_api_Step t⟩
theorem slices_Clone_api_Step_api_Step.H : Good Tryd.prog slices_Clone_api_Step_api_Step.S := good_nsl (B := tab) (e := (.st 6)) (RT := ⟨[.slot 2 (.one (.own 1 (.st 6))), .arr 1 (.st 6) 0], [(1, .arr (.st 6))], 2⟩) (fn := slices_Clone_api_Step_api_Step_v2) slices_Clone_api_Step_api_Step_v2.H (by kernel_rfl)
def slices_Index_api_Signal_api_Signal.A : Tpl := ⟨[.slot 0 (.one (.d (.sl (.st 2)))), .slot 1 (.dat (.st 2))], [], 0⟩
def slices_Index_api_Signal_api_Signal.R : Tpl := ⟨[.slot 4 (.one (.d (.int .i64)))], [], 2⟩
def slices_Index_api_Signal_api_Signal.S : Spec tab := ⟨57, slices_Index_api_Signal_api_Signal.A, slices_Index_api_Signal_api_Signal.R, [4], fun (t : TplT tab slices_Index_api_Signal_api_Signal.A) => slices_Index_api_Signal_api_Signal t.1 t.2⟩
def slices_Index_api_Signal_api_Signal.h : Hint := .s .n (.s (.s .n (.rg ⟨[.kr 5 1, .kr 10 7], [(2, .blk 77 2)], 322⟩ true .n)) .n)
theorem slices_Index_api_Signal_api_Signal.e (t : TplT tab (slices_Index_api_Signal_api_Signal.S).args) : (slices_Index_api_Signal_api_Signal.S).fn t = Dfn tt [] (slices_Index_api_Signal_api_Signal.S) (codeOf Tryd.f57) slices_Index_api_Signal_api_Signal.h t := by kernel_rfl
theorem slices_Index_api_Signal_api_Signal.H : Good Tryd.prog (slices_Index_api_Signal_api_Signal.S) := good_of ttok mixed Tryd.func57 (by kernel_rfl) (by kernel_rfl) specs_nil (slices_Index_api_Signal_api_Signal.e)
def line_signal.A : Tpl := ⟨[.slot 0 (.dat (.st 4)), .slot 1 (.dat (.st 5))], [], 0⟩
def line_signal.R : Tpl := ⟨[.slot 4 (.one (.d (.int .i64)))], [], 2⟩
def line_signal.S : Spec tab := ⟨44, line_signal.A, line_signal.R, [4], fun (t : TplT tab line_signal.A) => line_signal t.1 t.2⟩
def line_signal.h : Hint := .s .n (.s (.r [(7, 0)]) .n)
theorem line_signal.e (t : TplT tab (line_signal.S).args) : (line_signal.S).fn t = Dfn tt [slices_Index_api_Signal_api_Signal.S] (line_signal.S) (codeOf Tryd.f44) line_signal.h t := by kernel_rfl
theorem line_signal.H : Good Tryd.prog (line_signal.S) := good_of ttok mixed Tryd.func44 (by kernel_rfl) (by kernel_rfl) (specs_cons slices_Index_api_Signal_api_Signal.H specs_nil) (line_signal.e)
def it0_line_walk_1.A : Tpl := ⟨[.slot 0 (.one (.d (.opt (.st 4)))), .slot 1 (.one (.d (.opt (.st 5))))], [], 0⟩
def it0_line_walk_1.it : It tab := ⟨62, it0_line_walk_1.A, [.dat ((.st 6))], fun (t : TplT tab it0_line_walk_1.A) => it0_line_walk_1 t.1 t.2⟩
def it0_line_walk_1.LT : Tpl := ⟨[.slot 27 (.one (.d (.int .i64))), .kr 7 1, .kr 28 13], [(387, .blk 62 2), (1283, .arr (.int .i64))], 1475⟩
def it0_line_walk_1.hs : ItH := ⟨[.r [(2, 0)], .n, .n, .r [(9, 1)]], [.n, .n], [.n], [.n], [.n], []⟩
theorem it0_line_walk_1.e (n : Nat) (t : TplT tab (it0_line_walk_1.it).args) : it0_line_walk_1_N n t.1 t.2 = DYfn n 4 2 1 7 tt [line_joined.S, line_outs.S] it0_line_walk_1.it it0_line_walk_1.LT it0_line_walk_1.hs (codeOf Tryd.f62) t := by kernel_rfl
theorem it0_line_walk_1.H : GoodI Tryd.prog it0_line_walk_1.it := iter_good ttok mixed (specs_cons line_joined.H (specs_cons line_outs.H specs_nil)) Tryd.func62 (by kernel_rfl) (by kernel_rfl) (fun x => by kernel_rfl) (it0_line_walk_1.e bigN)
def line_finder_grow_v2.A : Tpl := ⟨[.slot 0 (.one (.ptr 0 0)), .slot 1 (.one (.d (.int .i64))), .slot 2 (.one (.own 1 (.st 6))), .slot 3 (.dat (.st 5)), .blk 0 104 8, .arr 1 (.st 6) 0, .cell 0 0 (.d (.sl .str)), .cell 0 1 (.d (.sl (.st 0))), .cell 0 2 (.d (.sl (.st 1))), .cell 0 3 (.d (.sl (.st 2))), .cell 0 4 (.d (.sl (.st 3))), .cell 0 5 (.own 2 (.st 7)), .arr 2 (.st 7) 0, .cell 0 6 (.d (.int .i64)), .cell 0 7 (.d .bool)], [(0, .blk 104 8), (1, .arr (.st 6)), (2, .arr (.st 7))], 3⟩
def line_finder_grow_v2.R : Tpl := ⟨[.rm 2, .cell 0 0 (.d (.sl .str)), .cell 0 1 (.d (.sl (.st 0))), .cell 0 2 (.d (.sl (.st 1))), .cell 0 3 (.d (.sl (.st 2))), .cell 0 4 (.d (.sl (.st 3))), .cell 0 5 (.own 18 (.st 7)), .cell 0 6 (.d (.int .i64)), .cell 0 7 (.d .bool), .arr 18 (.st 7) 0], [(0, .blk 104 8), (1, .arr (.st 6)), (18, .arr (.st 7))], 19⟩
def line_finder_grow_v2.S_ (rec_ : Int → S_line_end → List S_api_Step → List ByteArray → List S_api_Section → List S_api_Link → List S_api_Signal → List S_api_Gate → List S_api_Route → Int → Bool → Option (List ByteArray × List S_api_Section × List S_api_Link × List S_api_Signal × List S_api_Gate × Int × Bool × List S_api_Route)) : Spec tab := ⟨42, line_finder_grow_v2.A, line_finder_grow_v2.R, [], fun (t : TplT tab line_finder_grow_v2.A) => rec_ t.1 t.2.1 t.2.2.1 t.2.2.2.1 t.2.2.2.2.1 t.2.2.2.2.2.1 t.2.2.2.2.2.2.1 t.2.2.2.2.2.2.2.1 t.2.2.2.2.2.2.2.2.1 t.2.2.2.2.2.2.2.2.2.1 t.2.2.2.2.2.2.2.2.2.2⟩
def line_finder_grow_v2.h : Hint := .s .n (.s .n (.s (.r [(5, 0)]) (.b (.rf ⟨[.rm 2, .cell 0 0 (.d (.sl .str)), .cell 0 1 (.d (.sl (.st 0))), .cell 0 2 (.d (.sl (.st 1))), .cell 0 3 (.d (.sl (.st 2))), .cell 0 4 (.d (.sl (.st 3))), .cell 0 5 (.own 1422 (.st 7)), .cell 0 6 (.d (.int .i64)), .cell 0 7 (.d .bool), .arr 1422 (.st 7) 0], [(0, .blk 104 8), (1, .arr (.st 6)), (18, .blk 102 1), (82, .blk 3 1), (146, .blk 29 1), (210, .blk 62 2), (850, .blk 3 1), (1422, .arr (.st 7))], 1423⟩ ⟨[.rm 2, .cell 0 0 (.d (.sl .str)), .cell 0 1 (.d (.sl (.st 0))), .cell 0 2 (.d (.sl (.st 1))), .cell 0 3 (.d (.sl (.st 2))), .cell 0 4 (.d (.sl (.st 3))), .cell 0 5 (.own 1422 (.st 7)), .cell 0 6 (.d (.int .i64)), .cell 0 7 (.d .bool), .arr 1422 (.st 7) 0], [(0, .blk 104 8), (1, .arr (.st 6)), (18, .blk 102 1), (82, .blk 3 1), (146, .blk 29 1), (210, .blk 62 2), (850, .blk 3 1), (1422, .arr (.st 7))], 1423⟩ true [] .n (.b (.s .n (.s (.cut ⟨[.slot 44 (.one (.d .bool)), .kr 35 9], [(0, .blk 104 8), (1, .arr (.st 6)), (18, .blk 102 1), (82, .blk 3 1), (146, .blk 29 1), (210, .blk 62 2), (850, .blk 3 1), (1422, .arr (.st 7)), (1433, .blk 43 3)], 1817⟩ false [] (.r [(8, 1)]) (.c (.s (.r [(1, 2)]) .n) .n)) (.cut ⟨[.slot 10 (.one (.own 1819 (.st 6))), .arr 1819 (.st 6) 2, .kr 47 5], [(0, .blk 104 8), (1, .arr (.st 6)), (18, .blk 102 1), (82, .blk 3 1), (146, .blk 29 1), (210, .blk 62 2), (850, .blk 3 1), (1422, .arr (.st 7)), (1433, .blk 43 3), (1819, .arr (.st 6))], 1820⟩ false [] (.r [(1, 3)]) (.s .n (.s .n (.s (.r [(5, 4)]) (.s (.cut ⟨[.slot 14 (.one (.d .bool)), .kr 13 1, .kr 69 9], [(0, .blk 104 8), (1, .arr (.st 6)), (18, .blk 102 1), (82, .blk 3 1), (146, .blk 29 1), (210, .blk 62 2), (850, .blk 3 1), (1422, .arr (.st 7)), (1433, .blk 43 3), (1819, .arr (.st 6)), (2335, .blk 62 2)], 2911⟩ false [] (.r [(5, 5)]) (.cut ⟨[.slot 82 (.one (.d .bool)), .kr 78 4], [(0, .blk 104 8), (1, .arr (.st 6)), (18, .blk 102 1), (82, .blk 3 1), (146, .blk 29 1), (210, .blk 62 2), (850, .blk 3 1), (1422, .arr (.st 7)), (1433, .blk 43 3), (1819, .arr (.st 6)), (2335, .blk 62 2)], 2914⟩ false [] .n (.c (.s (.r [(4, 6)]) .n) .n))) (.s .n (.r [(1, 2)]))))))))))))))
theorem line_finder_grow_v2.e (rec_ : Int → S_line_end → List S_api_Step → List ByteArray → List S_api_Section → List S_api_Link → List S_api_Signal → List S_api_Gate → List S_api_Route → Int → Bool → Option (List ByteArray × List S_api_Section × List S_api_Link × List S_api_Signal × List S_api_Gate × Int × Bool × List S_api_Route)) (t : TplT tab (line_finder_grow_v2.S_ rec_).args) : (line_finder_grow_v2.S_ (line_finder_grow_v2_step rec_)).fn t = DfnI [it0_line_walk_1.it] tt [line_walk.S, line_stands.S, line_finder_count.S, slices_Clone_api_Step_api_Step.S, line_signal.S, line_joined.S, line_finder_grow_v2.S_ rec_] (line_finder_grow_v2.S_ (line_finder_grow_v2_step rec_)) (codeOf Tryd.f42) line_finder_grow_v2.h t := by kernel_rfl
def line_finder_grow_v2.S : Spec tab := line_finder_grow_v2.S_ (line_finder_grow_v2)
theorem line_finder_grow_v2.H : Good Tryd.prog (line_finder_grow_v2.S) := good_rec (S := line_finder_grow_v2.S_) (f := line_finder_grow_v2_n) (fun t => rfl) (by kernel_rfl) (fun n h => good_ofI (its_cons it0_line_walk_1.H its_nil) ttok mixed Tryd.func42 (by kernel_rfl) (by kernel_rfl) (specs_cons line_walk.H (specs_cons line_stands.H (specs_cons line_finder_count.H (specs_cons slices_Clone_api_Step_api_Step.H (specs_cons line_signal.H (specs_cons line_joined.H (specs_cons h specs_nil))))))) (line_finder_grow_v2.e (line_finder_grow_v2_n n))) bigN
def line_finder_grow.A : Tpl := ⟨[.slot 0 (.one (.ptr 0 0)), .slot 1 (.one (.d (.int .i64))), .slot 2 (.one (.d (.sl (.st 6)))), .slot 3 (.dat (.st 5)), .blk 0 104 8, .cell 0 0 (.d (.sl .str)), .cell 0 1 (.d (.sl (.st 0))), .cell 0 2 (.d (.sl (.st 1))), .cell 0 3 (.d (.sl (.st 2))), .cell 0 4 (.d (.sl (.st 3))), .cell 0 5 (.own 1 (.st 7)), .arr 1 (.st 7) 0, .cell 0 6 (.d (.int .i64)), .cell 0 7 (.d .bool)], [(0, .blk 104 8), (1, .arr (.st 7))], 2⟩
def line_finder_grow.R : Tpl := ⟨[.rm 1, .cell 0 0 (.d (.sl .str)), .cell 0 1 (.d (.sl (.st 0))), .cell 0 2 (.d (.sl (.st 1))), .cell 0 3 (.d (.sl (.st 2))), .cell 0 4 (.d (.sl (.st 3))), .cell 0 5 (.own 16 (.st 7)), .cell 0 6 (.d (.int .i64)), .cell 0 7 (.d .bool), .arr 16 (.st 7) 0], [(0, .blk 104 8), (16, .arr (.st 7))], 17⟩
def line_finder_grow.S : Spec tab := ⟨42, line_finder_grow.A, line_finder_grow.R, [], fun (t : TplT tab line_finder_grow.A) => line_finder_grow t.1 t.2.1 t.2.2.1 t.2.2.2.1 t.2.2.2.2.1 t.2.2.2.2.2.1 t.2.2.2.2.2.2.1 t.2.2.2.2.2.2.2.1 t.2.2.2.2.2.2.2.2.1 t.2.2.2.2.2.2.2.2.2.1 t.2.2.2.2.2.2.2.2.2.2⟩
def line_finder_grow.h : Hint := .s .n (.s .n (.s (.r [(5, 0)]) (.b (.rf ⟨[.rm 1, .cell 0 0 (.d (.sl .str)), .cell 0 1 (.d (.sl (.st 0))), .cell 0 2 (.d (.sl (.st 1))), .cell 0 3 (.d (.sl (.st 2))), .cell 0 4 (.d (.sl (.st 3))), .cell 0 5 (.own 1420 (.st 7)), .cell 0 6 (.d (.int .i64)), .cell 0 7 (.d .bool), .arr 1420 (.st 7) 0], [(0, .blk 104 8), (16, .blk 102 1), (80, .blk 3 1), (144, .blk 29 1), (208, .blk 62 2), (848, .blk 3 1), (1420, .arr (.st 7))], 1421⟩ ⟨[.rm 1, .cell 0 0 (.d (.sl .str)), .cell 0 1 (.d (.sl (.st 0))), .cell 0 2 (.d (.sl (.st 1))), .cell 0 3 (.d (.sl (.st 2))), .cell 0 4 (.d (.sl (.st 3))), .cell 0 5 (.own 1420 (.st 7)), .cell 0 6 (.d (.int .i64)), .cell 0 7 (.d .bool), .arr 1420 (.st 7) 0], [(0, .blk 104 8), (16, .blk 102 1), (80, .blk 3 1), (144, .blk 29 1), (208, .blk 62 2), (848, .blk 3 1), (1420, .arr (.st 7))], 1421⟩ true [] .n (.b (.s .n (.s (.cut ⟨[.slot 44 (.one (.d .bool)), .kr 35 9], [(0, .blk 104 8), (16, .blk 102 1), (80, .blk 3 1), (144, .blk 29 1), (208, .blk 62 2), (848, .blk 3 1), (1420, .arr (.st 7)), (1431, .blk 43 3)], 1815⟩ false [] (.r [(8, 1)]) (.c (.s (.r [(1, 2)]) .n) .n)) (.cut ⟨[.slot 10 (.one (.own 1817 (.st 6))), .arr 1817 (.st 6) 2, .kr 47 5], [(0, .blk 104 8), (16, .blk 102 1), (80, .blk 3 1), (144, .blk 29 1), (208, .blk 62 2), (848, .blk 3 1), (1420, .arr (.st 7)), (1431, .blk 43 3), (1817, .arr (.st 6))], 1818⟩ false [] (.r [(1, 3)]) (.s .n (.s .n (.s (.r [(5, 4)]) (.s (.cut ⟨[.slot 14 (.one (.d .bool)), .kr 13 1, .kr 69 9], [(0, .blk 104 8), (16, .blk 102 1), (80, .blk 3 1), (144, .blk 29 1), (208, .blk 62 2), (848, .blk 3 1), (1420, .arr (.st 7)), (1431, .blk 43 3), (1817, .arr (.st 6)), (2333, .blk 62 2)], 2909⟩ false [] (.r [(5, 5)]) (.cut ⟨[.slot 82 (.one (.d .bool)), .kr 78 4], [(0, .blk 104 8), (16, .blk 102 1), (80, .blk 3 1), (144, .blk 29 1), (208, .blk 62 2), (848, .blk 3 1), (1420, .arr (.st 7)), (1431, .blk 43 3), (1817, .arr (.st 6)), (2333, .blk 62 2)], 2912⟩ false [] .n (.c (.s (.r [(4, 6)]) .n) .n))) (.s .n (.r [(1, 2)]))))))))))))))
theorem line_finder_grow.e (t : TplT tab (line_finder_grow.S).args) : (line_finder_grow.S).fn t = DfnI [it0_line_walk_1.it] tt [line_walk.S, line_stands.S, line_finder_count.S, slices_Clone_api_Step_api_Step.S, line_signal.S, line_joined.S, line_finder_grow_v2.S] (line_finder_grow.S) (codeOf Tryd.f42) line_finder_grow.h t := by kernel_rfl
theorem line_finder_grow.H : Good Tryd.prog (line_finder_grow.S) := good_ofI (its_cons it0_line_walk_1.H its_nil) ttok mixed Tryd.func42 (by kernel_rfl) (by kernel_rfl) (specs_cons line_walk.H (specs_cons line_stands.H (specs_cons line_finder_count.H (specs_cons slices_Clone_api_Step_api_Step.H (specs_cons line_signal.H (specs_cons line_joined.H (specs_cons line_finder_grow_v2.H specs_nil))))))) (line_finder_grow.e)
def line_routes.A : Tpl := ⟨[.slot 0 (.dat (.st 4))], [], 0⟩
def line_routes.R : Tpl := ⟨[.slot 2 (.one (.own 1 (.st 7))), .slot 3 (.one (.d (.int .i64))), .arr 1 (.st 7) 0], [(1, .arr (.st 7))], 2⟩
def line_routes.S : Spec tab := ⟨25, line_routes.A, line_routes.R, [2, 3], fun (t : TplT tab line_routes.A) => line_routes t⟩
def line_routes.h : Hint := .s .n (.s .n (.s (.s .n (.rg ⟨[.cell 321 0 (.d (.sl .str)), .cell 321 1 (.d (.sl (.st 0))), .cell 321 2 (.d (.sl (.st 1))), .cell 321 3 (.d (.sl (.st 2))), .cell 321 4 (.d (.sl (.st 3))), .cell 321 5 (.own 705 (.st 7)), .cell 321 6 (.d (.int .i64)), .cell 321 7 (.d .bool), .arr 705 (.st 7) 0, .kr 5 2, .kr 15 11], [(1, .blk 28 5), (321, .blk 104 8), (705, .arr (.st 7))], 706⟩ false (.b (.s .n (.r [(7, 0)]))))) .n))
theorem line_routes.e (t : TplT tab (line_routes.S).args) : (line_routes.S).fn t = Dfn tt [line_finder_grow.S] (line_routes.S) (codeOf Tryd.f25) line_routes.h t := by kernel_rfl
theorem line_routes.H : Good Tryd.prog (line_routes.S) := good_of ttok mixed Tryd.func25 (by kernel_rfl) (by kernel_rfl) (specs_cons line_finder_grow.H specs_nil) (line_routes.e)
def line_Routes.A : Tpl := ⟨[.slot 0 (.dat (.st 4))], [], 0⟩
def line_Routes.R : Tpl := ⟨[.slot 2 (.one (.own 1 (.st 7))), .slot 3 (.one (.d (.int .i64))), .arr 1 (.st 7) 0], [(1, .arr (.st 7))], 2⟩
def line_Routes.S : Spec tab := ⟨13, line_Routes.A, line_Routes.R, [2, 3], fun (t : TplT tab line_Routes.A) => line_Routes t⟩
def line_Routes.h : Hint := .s .n (.s (.s (.r [(1, 0)]) .n) (.s (.r [(1, 1)]) .n))
theorem line_Routes.e (t : TplT tab (line_Routes.S).args) : (line_Routes.S).fn t = Dfn tt [line_Check.S, line_routes.S] (line_Routes.S) (codeOf Tryd.f13) line_Routes.h t := by kernel_rfl
theorem line_Routes.H : Good Tryd.prog (line_Routes.S) := good_of ttok mixed Tryd.func13 (by kernel_rfl) (by kernel_rfl) (specs_cons line_Check.H (specs_cons line_routes.H specs_nil)) (line_Routes.e)
def slices_Index_int_int.A : Tpl := ⟨[.slot 0 (.one (.d (.sl (.int .i64)))), .slot 1 (.one (.d (.int .i64)))], [], 0⟩
def slices_Index_int_int.R : Tpl := ⟨[.slot 4 (.one (.d (.int .i64)))], [], 2⟩
def slices_Index_int_int.S : Spec tab := ⟨38, slices_Index_int_int.A, slices_Index_int_int.R, [4], fun (t : TplT tab slices_Index_int_int.A) => slices_Index_int_int t.1 t.2⟩
def slices_Index_int_int.h : Hint := .s .n (.s (.s .n (.rg ⟨[.kr 5 1, .kr 10 7], [], 258⟩ true .n)) .n)
theorem slices_Index_int_int.e (t : TplT tab (slices_Index_int_int.S).args) : (slices_Index_int_int.S).fn t = Dfn tt [] (slices_Index_int_int.S) (codeOf Tryd.f38) slices_Index_int_int.h t := by kernel_rfl
theorem slices_Index_int_int.H : Good Tryd.prog (slices_Index_int_int.S) := good_of ttok mixed Tryd.func38 (by kernel_rfl) (by kernel_rfl) specs_nil (slices_Index_int_int.e)
def slices_Contains_int_int.A : Tpl := ⟨[.slot 0 (.one (.d (.sl (.int .i64)))), .slot 1 (.one (.d (.int .i64)))], [], 0⟩
def slices_Contains_int_int.R : Tpl := ⟨[.slot 4 (.one (.d .bool))], [], 2⟩
def slices_Contains_int_int.S : Spec tab := ⟨18, slices_Contains_int_int.A, slices_Contains_int_int.R, [4], fun (t : TplT tab slices_Contains_int_int.A) => slices_Contains_int_int t.1 t.2⟩
def slices_Contains_int_int.h : Hint := .s .n (.s (.r [(2, 0)]) .n)
theorem slices_Contains_int_int.e (t : TplT tab (slices_Contains_int_int.S).args) : (slices_Contains_int_int.S).fn t = Dfn tt [slices_Index_int_int.S] (slices_Contains_int_int.S) (codeOf Tryd.f18) slices_Contains_int_int.h t := by kernel_rfl
theorem slices_Contains_int_int.H : Good Tryd.prog (slices_Contains_int_int.S) := good_of ttok mixed Tryd.func18 (by kernel_rfl) (by kernel_rfl) (specs_cons slices_Index_int_int.H specs_nil) (slices_Contains_int_int.e)
def line_CheckPath.A : Tpl := ⟨[.slot 0 (.dat (.st 4)), .slot 1 (.one (.d (.sl (.st 6))))], [], 0⟩
def line_CheckPath.R : Tpl := ⟨[.slot 4 (.one (.d (.int .i64)))], [], 2⟩
def line_CheckPath.S : Spec tab := ⟨7, line_CheckPath.A, line_CheckPath.R, [4], fun (t : TplT tab line_CheckPath.A) => line_CheckPath t.1 t.2⟩
def line_CheckPath.h : Hint := .s .n (.s (.s (.r [(1, 0)]) .n) (.s .n (.s .n (.s (.s .n (.rg ⟨[.mp 642 (.int .i64) .bool, .kr 7 5, .kr 25 72], [(2, .blk 28 5), (642, .mp (.int .i64) .bool)], 962⟩ true (.b (.s .n (.s (.b (.cut ⟨[.slot 28 (.one (.d .bool)), .kr 29 18], [(2, .blk 28 5), (642, .mp (.int .i64) .bool), (1157, .blk 43 3)], 1349⟩ false [] (.r [(6, 1), (15, 1)]) (.c .n (.s (.r [(9, 2), (12, 3)]) .n)))) (.cut ⟨[.kr 9 3, .kr 62 28], [(2, .blk 28 5), (642, .mp (.int .i64) .bool), (1157, .blk 43 3), (1927, .arr (.int .i64))], 2311⟩ true [] (.s .n (.c (.s .n (.s (.r [(6, 4)]) (.cut ⟨[.slot 89 (.one (.d .bool)), .kr 79 10], [(2, .blk 28 5), (642, .mp (.int .i64) .bool), (1157, .blk 43 3), (1927, .arr (.int .i64)), (2759, .blk 43 3), (3527, .blk 62 2)], 3719⟩ false [] .n .n))) .n)) .n)))))) .n))))
theorem line_CheckPath.e (t : TplT tab (line_CheckPath.S).args) : (line_CheckPath.S).fn t = Dfn tt [line_Check.S, line_has.S, line_outs.S, slices_Contains_int_int.S, line_joined.S] (line_CheckPath.S) (codeOf Tryd.f7) line_CheckPath.h t := by kernel_rfl
theorem line_CheckPath.H : Good Tryd.prog (line_CheckPath.S) := good_of ttok mixed Tryd.func7 (by kernel_rfl) (by kernel_rfl) (specs_cons line_Check.H (specs_cons line_has.H (specs_cons line_outs.H (specs_cons slices_Contains_int_int.H (specs_cons line_joined.H specs_nil))))) (line_CheckPath.e)
def line_checkEnd.A : Tpl := ⟨[.slot 0 (.dat (.st 4)), .slot 1 (.dat (.st 5))], [], 0⟩
def line_checkEnd.R : Tpl := ⟨[.slot 4 (.one (.d (.int .i64)))], [], 2⟩
def line_checkEnd.S : Spec tab := ⟨43, line_checkEnd.A, line_checkEnd.R, [4], fun (t : TplT tab line_checkEnd.A) => line_checkEnd t.1 t.2⟩
def line_checkEnd.h : Hint := .s .n (.s (.s (.r [(1, 0)]) .n) (.s (.s (.r [(2, 1)]) .n) .n))
theorem line_checkEnd.e (t : TplT tab (line_checkEnd.S).args) : (line_checkEnd.S).fn t = Dfn tt [line_Check.S, line_has.S] (line_checkEnd.S) (codeOf Tryd.f43) line_checkEnd.h t := by kernel_rfl
theorem line_checkEnd.H : Good Tryd.prog (line_checkEnd.S) := good_of ttok mixed Tryd.func43 (by kernel_rfl) (by kernel_rfl) (specs_cons line_Check.H (specs_cons line_has.H specs_nil)) (line_checkEnd.e)
def line_Next.A : Tpl := ⟨[.slot 0 (.dat (.st 4)), .slot 1 (.one (.d (.int .i64))), .slot 2 (.one (.d (.int .i64)))], [], 0⟩
def line_Next.R : Tpl := ⟨[.slot 6 (.one (.d (.int .i64))), .slot 7 (.one (.d (.int .i64))), .slot 8 (.one (.d (.int .i64)))], [], 3⟩
def line_Next.S : Spec tab := ⟨26, line_Next.A, line_Next.R, [6, 7, 8], fun (t : TplT tab line_Next.A) => line_Next t.1 t.2.1 t.2.2⟩
def line_Next.h : Hint := .s .n (.s .n (.s (.s (.r [(2, 0)]) .n) (.s (.r [(2, 1)]) .n)))
theorem line_Next.e (t : TplT tab (line_Next.S).args) : (line_Next.S).fn t = Dfn tt [line_checkEnd.S, line_joined.S] (line_Next.S) (codeOf Tryd.f26) line_Next.h t := by kernel_rfl
theorem line_Next.H : Good Tryd.prog (line_Next.S) := good_of ttok mixed Tryd.func26 (by kernel_rfl) (by kernel_rfl) (specs_cons line_checkEnd.H (specs_cons line_joined.H specs_nil)) (line_Next.e)
def line_SignalAt.A : Tpl := ⟨[.slot 0 (.dat (.st 4)), .slot 1 (.one (.d (.int .i64))), .slot 2 (.one (.d (.int .i64)))], [], 0⟩
def line_SignalAt.R : Tpl := ⟨[.slot 6 (.one (.d (.int .i64))), .slot 7 (.one (.d (.int .i64)))], [], 3⟩
def line_SignalAt.S : Spec tab := ⟨27, line_SignalAt.A, line_SignalAt.R, [6, 7], fun (t : TplT tab line_SignalAt.A) => line_SignalAt t.1 t.2.1 t.2.2⟩
def line_SignalAt.h : Hint := .s .n (.s .n (.s (.s (.r [(2, 0)]) .n) (.s (.r [(2, 1)]) .n)))
theorem line_SignalAt.e (t : TplT tab (line_SignalAt.S).args) : (line_SignalAt.S).fn t = Dfn tt [line_checkEnd.S, line_signal.S] (line_SignalAt.S) (codeOf Tryd.f27) line_SignalAt.h t := by kernel_rfl
theorem line_SignalAt.H : Good Tryd.prog (line_SignalAt.S) := good_of ttok mixed Tryd.func27 (by kernel_rfl) (by kernel_rfl) (specs_cons line_checkEnd.H (specs_cons line_signal.H specs_nil)) (line_SignalAt.e)
def fishkeep1_routeRuns.A : Tpl := ⟨[.slot 0 (.dat (.st 4)), .slot 1 (.dat (.st 7))], [], 0⟩
def fishkeep1_routeRuns.R : Tpl := ⟨[.slot 4 (.one (.d .bool))], [], 2⟩
def fishkeep1_routeRuns.S : Spec tab := ⟨14, fishkeep1_routeRuns.A, fishkeep1_routeRuns.R, [4], fun (t : TplT tab fishkeep1_routeRuns.A) => fishkeep1_routeRuns t.1 t.2⟩
def fishkeep1_routeRuns.h : Hint := .s .n (.s (.cut ⟨[.slot 38 (.one (.d .bool)), .kr 15 23], [(2, .blk 28 5), (66, .blk 54 3)], 194⟩ false [] (.r [(21, 0)]) .n) (.s .n (.s (.r [(5, 1)]) (.s (.cut ⟨[.slot 74 (.one (.d .bool)), .kr 55 19], [(2, .blk 28 5), (66, .blk 54 3), (580, .blk 77 2)], 1540⟩ false [] .n .n) (.s (.s .n (.rg ⟨[.kr 9 5, .kr 80 49], [(2, .blk 28 5), (66, .blk 54 3), (580, .blk 77 2)], 1798⟩ true (.b (.s .n (.s (.r [(5, 2)]) (.s .n (.cut ⟨[.slot 128 (.one (.d .bool)), .kr 98 30], [(2, .blk 28 5), (66, .blk 54 3), (580, .blk 77 2), (1992, .blk 43 3)], 3336⟩ false [] .n .n))))))) (.s .n (.s (.r [(5, 1)]) (.cut ⟨[.slot 4 (.one (.d .bool)), .kr 148 7], [(2, .blk 28 5), (66, .blk 54 3), (580, .blk 77 2), (2312, .blk 43 3)], 3144⟩ false [] .n .n))))))))
theorem fishkeep1_routeRuns.e (t : TplT tab (fishkeep1_routeRuns.S).args) : (fishkeep1_routeRuns.S).fn t = Dfn tt [line_CheckPath.S, line_Next.S, line_SignalAt.S] (fishkeep1_routeRuns.S) (codeOf Tryd.f14) fishkeep1_routeRuns.h t := by kernel_rfl
theorem fishkeep1_routeRuns.H : Good Tryd.prog (fishkeep1_routeRuns.S) := good_of ttok mixed Tryd.func14 (by kernel_rfl) (by kernel_rfl) (specs_cons line_CheckPath.H (specs_cons line_Next.H (specs_cons line_SignalAt.H specs_nil))) (fishkeep1_routeRuns.e)
def fishkeep1_LineRuns.A : Tpl := ⟨[.slot 0 (.dat (.st 4))], [], 0⟩
def fishkeep1_LineRuns.R : Tpl := ⟨[.slot 2 (.one (.d .bool))], [], 1⟩
def fishkeep1_LineRuns.S : Spec tab := ⟨5, fishkeep1_LineRuns.A, fishkeep1_LineRuns.R, [2], fun (t : TplT tab fishkeep1_LineRuns.A) => fishkeep1_LineRuns t⟩
def fishkeep1_LineRuns.h : Hint := .s .n (.s (.s (.r [(0, 0)]) .n) (.s (.r [(1, 1)]) (.s .n (.s (.s .n (.rg ⟨[.kr 5 2, .kr 23 22], [(1, .blk 28 5), (322, .arr (.st 7))], 1025⟩ true (.b (.s .n (.cut ⟨[.slot 44 (.one (.d .bool)), .kr 26 18], [(1, .blk 28 5), (322, .arr (.st 7)), (1219, .blk 54 3)], 1411⟩ false [] (.r [(2, 2)]) .n))))) .n))))
theorem fishkeep1_LineRuns.e (t : TplT tab (fishkeep1_LineRuns.S).args) : (fishkeep1_LineRuns.S).fn t = Dfn tt [fishkeep1_awakeLine.S, line_Routes.S, fishkeep1_routeRuns.S] (fishkeep1_LineRuns.S) (codeOf Tryd.f5) fishkeep1_LineRuns.h t := by kernel_rfl
theorem fishkeep1_LineRuns.H : Good Tryd.prog (fishkeep1_LineRuns.S) := good_of ttok mixed Tryd.func5 (by kernel_rfl) (by kernel_rfl) (specs_cons fishkeep1_awakeLine.H (specs_cons line_Routes.H (specs_cons fishkeep1_routeRuns.H specs_nil))) (fishkeep1_LineRuns.e)
end Hd
