/- Each call returns what its plain function gives. Printed by a tool. -/
import Derived.Test.YtohpilnjebnelaaDoorZT
set_option linter.unusedVariables false
set_option linter.unusedSimpArgs false
set_option maxRecDepth 100000
set_option maxHeartbeats 4000000
namespace Hd
open Go Hk Go.Proofs
def internal_stringslite_HasSuffix.A : Tpl := ⟨[.slot 0 (.one (.ks (⟨#[120]⟩ : ByteArray))), .slot 1 (.one (.ks (⟨#[10]⟩ : ByteArray)))], [], 0⟩
def internal_stringslite_HasSuffix.R : Tpl := ⟨[.slot 4 (.one (.kb false))], [], 2⟩
def internal_stringslite_HasSuffix.S : Spec tab := ⟨61, internal_stringslite_HasSuffix.A, internal_stringslite_HasSuffix.R, [4], fun _ => internal_stringslite_HasSuffix⟩
def internal_stringslite_HasSuffix.h : Hint := .s .n (.cut ⟨[.slot 4 (.one (.kb false)), .kr 5 16], [], 66⟩ false [] .n .n)
theorem internal_stringslite_HasSuffix.e (t : TplT tab (internal_stringslite_HasSuffix.S).args) : (internal_stringslite_HasSuffix.S).fn t = Dfn tt [] (internal_stringslite_HasSuffix.S) (codeOf Tryd.f61) internal_stringslite_HasSuffix.h t := by kernel_rfl
theorem internal_stringslite_HasSuffix.H : Good Tryd.prog (internal_stringslite_HasSuffix.S) := good_of ttok mixed Tryd.func61 (by kernel_rfl) (by kernel_rfl) specs_nil (internal_stringslite_HasSuffix.e)
def internal_stringslite_CutSuffix.A : Tpl := ⟨[.slot 0 (.one (.ks (⟨#[120]⟩ : ByteArray))), .slot 1 (.one (.ks (⟨#[10]⟩ : ByteArray)))], [], 0⟩
def internal_stringslite_CutSuffix.R : Tpl := ⟨[.slot 4 (.one (.ks (⟨#[120]⟩ : ByteArray))), .slot 5 (.one (.kb false))], [], 2⟩
def internal_stringslite_CutSuffix.S : Spec tab := ⟨52, internal_stringslite_CutSuffix.A, internal_stringslite_CutSuffix.R, [4, 5], fun _ => internal_stringslite_CutSuffix⟩
def internal_stringslite_CutSuffix.h : Hint := .s .n (.s (.s (.r [(2, 0)]) .n) .n)
theorem internal_stringslite_CutSuffix.e (t : TplT tab (internal_stringslite_CutSuffix.S).args) : (internal_stringslite_CutSuffix.S).fn t = Dfn tt [internal_stringslite_HasSuffix.S] (internal_stringslite_CutSuffix.S) (codeOf Tryd.f52) internal_stringslite_CutSuffix.h t := by kernel_rfl
theorem internal_stringslite_CutSuffix.H : Good Tryd.prog (internal_stringslite_CutSuffix.S) := good_of ttok mixed Tryd.func52 (by kernel_rfl) (by kernel_rfl) (specs_cons internal_stringslite_HasSuffix.H specs_nil) (internal_stringslite_CutSuffix.e)
def strings_CutSuffix.A : Tpl := ⟨[.slot 0 (.one (.ks (⟨#[120]⟩ : ByteArray))), .slot 1 (.one (.ks (⟨#[10]⟩ : ByteArray)))], [], 0⟩
def strings_CutSuffix.R : Tpl := ⟨[.slot 4 (.one (.ks (⟨#[120]⟩ : ByteArray))), .slot 5 (.one (.kb false))], [], 2⟩
def strings_CutSuffix.S : Spec tab := ⟨42, strings_CutSuffix.A, strings_CutSuffix.R, [4, 5], fun _ => strings_CutSuffix⟩
def strings_CutSuffix.h : Hint := .s .n (.s (.r [(2, 0)]) .n)
theorem strings_CutSuffix.e (t : TplT tab (strings_CutSuffix.S).args) : (strings_CutSuffix.S).fn t = Dfn tt [internal_stringslite_CutSuffix.S] (strings_CutSuffix.S) (codeOf Tryd.f42) strings_CutSuffix.h t := by kernel_rfl
theorem strings_CutSuffix.H : Good Tryd.prog (strings_CutSuffix.S) := good_of ttok mixed Tryd.func42 (by kernel_rfl) (by kernel_rfl) (specs_cons internal_stringslite_CutSuffix.H specs_nil) (strings_CutSuffix.e)
def strings_Split.A : Tpl := ⟨[.slot 0 (.one (.d .str)), .slot 1 (.one (.ks (⟨#[10]⟩ : ByteArray)))], [], 0⟩
def strings_Split.R : Tpl := ⟨[.slot 4 (.one (.own 2 .str)), .arr 2 .str 2], [(2, .arr .str)], 3⟩
def strings_Split.S : Spec tab := ⟨43, strings_Split.A, strings_Split.R, [4], fun (t : ByteArray) => ssplit 10 t⟩
theorem strings_Split.H : Good Tryd.prog strings_Split.S := split_good (B := tab) Tryd.lays146 (by kernel_rfl) (by kernel_rfl) 10 4
def strings_Split_v2.A : Tpl := ⟨[.slot 0 (.one (.d .str)), .slot 1 (.one (.ks (⟨#[32]⟩ : ByteArray)))], [], 0⟩
def strings_Split_v2.R : Tpl := ⟨[.slot 4 (.one (.own 2 .str)), .arr 2 .str 2], [(2, .arr .str)], 3⟩
def strings_Split_v2.S : Spec tab := ⟨43, strings_Split_v2.A, strings_Split_v2.R, [4], fun (t : ByteArray) => ssplit 32 t⟩
theorem strings_Split_v2.H : Good Tryd.prog strings_Split_v2.S := split_good (B := tab) Tryd.lays146 (by kernel_rfl) (by kernel_rfl) 32 4
def line_Lines.A : Tpl := ⟨[.slot 0 (.one (.ks (⟨#[120]⟩ : ByteArray)))], [], 0⟩
def line_Lines.R : Tpl := ⟨[.slot 2 (.one (.own 1 (.sl .str))), .slot 3 (.one (.kb false)), .arr 1 (.sl .str) 0], [(1, .arr (.sl .str))], 2⟩
def line_Lines.S : Spec tab := ⟨32, line_Lines.A, line_Lines.R, [2, 3], fun _ => line_Lines⟩
def line_Lines.h : Hint := .s .n (.s .n (.s (.r [(1, 0)]) (.s .n (.s (.s (.r [(1, 1)]) (.rg ⟨[.slot 6 (.one (.own 1025 (.sl .str))), .arr 1025 (.sl .str) 0, .kr 8 1, .kr 21 7], [(835, .arr .str), (1025, .arr (.sl .str))], 1026⟩ false (.b (.s .n (.r [(2, 2)]))))) .n))))
theorem line_Lines.e (t : TplT tab (line_Lines.S).args) : (line_Lines.S).fn t = Dfn tt [strings_CutSuffix.S, strings_Split.S, strings_Split_v2.S] (line_Lines.S) (codeOf Tryd.f32) line_Lines.h t := by kernel_rfl
theorem line_Lines.H : Good Tryd.prog (line_Lines.S) := good_of ttok mixed Tryd.func32 (by kernel_rfl) (by kernel_rfl) (specs_cons strings_CutSuffix.H (specs_cons strings_Split.H (specs_cons strings_Split_v2.H specs_nil))) (line_Lines.e)
def run_Read.A : Tpl := ⟨[.slot 0 (.one (.ks (⟨#[120]⟩ : ByteArray)))], [], 0⟩
def run_Read.R : Tpl := ⟨[.slot 2 (.one (.nils)), .slot 3 (.one (.ki .i64 10))], [], 1⟩
def run_Read.S : Spec tab := ⟨22, run_Read.A, run_Read.R, [2, 3], fun _ => run_Read⟩
def run_Read.h : Hint := .s .n (.s .n (.s (.r [(1, 0)]) .n))
theorem run_Read.e (t : TplT tab (run_Read.S).args) : (run_Read.S).fn t = Dfn tt [line_Lines.S] (run_Read.S) (codeOf Tryd.f22) run_Read.h t := by kernel_rfl
theorem run_Read.H : Good Tryd.prog (run_Read.S) := good_of ttok mixed Tryd.func22 (by kernel_rfl) (by kernel_rfl) (specs_cons line_Lines.H specs_nil) (run_Read.e)
def fishkeep1_awakeRun.A : Tpl := ⟨[], [], 0⟩
def fishkeep1_awakeRun.R : Tpl := ⟨[.slot 0 (.one (.kb true))], [], 0⟩
def fishkeep1_awakeRun.S : Spec tab := ⟨9, fishkeep1_awakeRun.A, fishkeep1_awakeRun.R, [0], fun _ => fishkeep1_awakeRun⟩
def fishkeep1_awakeRun.h : Hint := .s .n (.s (.r [(0, 0)]) .n)
theorem fishkeep1_awakeRun.e (t : TplT tab (fishkeep1_awakeRun.S).args) : (fishkeep1_awakeRun.S).fn t = Dfn tt [run_Read.S] (fishkeep1_awakeRun.S) (codeOf Tryd.f9) fishkeep1_awakeRun.h t := by kernel_rfl
theorem fishkeep1_awakeRun.H : Good Tryd.prog (fishkeep1_awakeRun.S) := good_of ttok mixed Tryd.func9 (by kernel_rfl) (by kernel_rfl) (specs_cons run_Read.H specs_nil) (fishkeep1_awakeRun.e)
def run_name.A : Tpl := ⟨[.slot 0 (.one (.d .str))], [], 0⟩
def run_name.R : Tpl := ⟨[.slot 2 (.one (.d .bool))], [], 1⟩
def run_name.S : Spec tab := ⟨23, run_name.A, run_name.R, [2], fun (t : TplT tab run_name.A) => run_name t⟩
def run_name.h : Hint := .s .n (.s (.s .n (.rg ⟨[.kr 4 1, .kr 10 8], [], 321⟩ true (.b (.s .n (.cut ⟨[.slot 17 (.one (.d .bool)), .kr 12 5], [], 515⟩ false [] .n .n))))) (.cut ⟨[.slot 2 (.one (.d .bool)), .kr 19 8], [], 323⟩ false [] .n .n))
theorem run_name.e (t : TplT tab (run_name.S).args) : (run_name.S).fn t = Dfn tt [] (run_name.S) (codeOf Tryd.f23) run_name.h t := by kernel_rfl
theorem run_name.H : Good Tryd.prog (run_name.S) := good_of ttok mixed Tryd.func23 (by kernel_rfl) (by kernel_rfl) specs_nil (run_name.e)
def run_numbers.A : Tpl := ⟨[.slot 0 (.dat (.st 0))], [], 0⟩
def run_numbers.R : Tpl := ⟨[.slot 67108866 (.agg [.d (.int .i64), .d (.int .i64), .d (.int .i64), .d (.int .i64), .d (.int .i64), .d (.int .i64), .d (.int .i64), .d (.int .i64), .d (.int .i64)])], [], 1⟩
def run_numbers.S : Spec tab := ⟨24, run_numbers.A, run_numbers.R, [67108866], fun (t : TplT tab run_numbers.A) => run_numbers t⟩
def run_numbers.h : Hint := .s (.r [(1, 0)]) .n
theorem run_numbers.e (t : TplT tab (run_numbers.S).args) : (run_numbers.S).fn t = Dfn tt [] (run_numbers.S) (codeOf Tryd.f24) run_numbers.h t := by kernel_rfl
theorem run_numbers.H : Good Tryd.prog (run_numbers.S) := good_of ttok mixed Tryd.func24 (by kernel_rfl) (by kernel_rfl) specs_nil (run_numbers.e)
def run_within.A : Tpl := ⟨[.slot 0 (.one (.d (.int .i64))), .slot 1 (.one (.d (.int .i64))), .slot 2 (.one (.d (.int .i64)))], [], 0⟩
def run_within.R : Tpl := ⟨[.slot 6 (.one (.d .bool))], [], 3⟩
def run_within.S : Spec tab := ⟨25, run_within.A, run_within.R, [6], fun (t : TplT tab run_within.A) => run_within t.1 t.2.1 t.2.2⟩
def run_within.h : Hint := .s .n (.cut ⟨[.slot 6 (.one (.d .bool)), .kr 7 8], [], 67⟩ false [] .n .n)
theorem run_within.e (t : TplT tab (run_within.S).args) : (run_within.S).fn t = Dfn tt [] (run_within.S) (codeOf Tryd.f25) run_within.h t := by kernel_rfl
theorem run_within.H : Good Tryd.prog (run_within.S) := good_of ttok mixed Tryd.func25 (by kernel_rfl) (by kernel_rfl) specs_nil (run_within.e)
def run_Check.A : Tpl := ⟨[.slot 0 (.dat (.st 0))], [], 0⟩
def run_Check.R : Tpl := ⟨[.slot 2 (.one (.d (.int .i64)))], [], 1⟩
def run_Check.S : Spec tab := ⟨10, run_Check.A, run_Check.R, [2], fun (t : TplT tab run_Check.A) => run_Check t⟩
def run_Check.h : Hint := .s .n (.s (.s (.r [(2, 0)]) .n) (.s .n (.s (.s (.r [(1, 1)]) (.lp ⟨[.slot 22 (.one (.d (.int .i64))), .kr 4 2, .kr 23 15], [(1, .blk 23 10), (1025, .arr (.int .i64))], 1345⟩ ⟨[.kr 4 2, .kr 22 16], [(1, .blk 23 10), (1025, .arr (.int .i64))], 1345⟩ true [] (.s .n (.s .n (.s (.b (.s .n (.s (.r [(9, 2)]) .n))) .n))))) .n)))
theorem run_Check.e (t : TplT tab (run_Check.S).args) : (run_Check.S).fn t = Dfn tt [run_name.S, run_numbers.S, run_within.S] (run_Check.S) (codeOf Tryd.f10) run_Check.h t := by kernel_rfl
theorem run_Check.H : Good Tryd.prog (run_Check.S) := good_of ttok mixed Tryd.func10 (by kernel_rfl) (by kernel_rfl) (specs_cons run_name.H (specs_cons run_numbers.H (specs_cons run_within.H specs_nil))) (run_Check.e)
def run_gone.A : Tpl := ⟨[.slot 0 (.one (.d (.int .i64))), .slot 1 (.one (.d (.int .i64)))], [], 0⟩
def run_gone.R : Tpl := ⟨[.slot 4 (.one (.d (.int .i64)))], [], 2⟩
def run_gone.S : Spec tab := ⟨35, run_gone.A, run_gone.R, [4], fun (t : TplT tab run_gone.A) => run_gone t.1 t.2⟩
def run_gone.h : Hint := .n
theorem run_gone.e (t : TplT tab (run_gone.S).args) : (run_gone.S).fn t = Dfn tt [] (run_gone.S) (codeOf Tryd.f35) run_gone.h t := by kernel_rfl
theorem run_gone.H : Good Tryd.prog (run_gone.S) := good_of ttok mixed Tryd.func35 (by kernel_rfl) (by kernel_rfl) specs_nil (run_gone.e)
def run_into.A : Tpl := ⟨[.slot 0 (.dat (.st 0)), .slot 1 (.one (.d (.int .i64))), .slot 2 (.one (.d (.int .i64)))], [], 0⟩
def run_into.R : Tpl := ⟨[.slot 6 (.one (.d (.int .i64)))], [], 3⟩
def run_into.S : Spec tab := ⟨26, run_into.A, run_into.R, [6], fun (t : TplT tab run_into.A) => run_into t.1 t.2.1 t.2.2⟩
def run_into.h : Hint := .s .n (.s .n (.s (.lp ⟨[.slot 1 (.one (.d (.int .i64))), .slot 7 (.one (.d (.int .i64))), .kr 8 17], [(3, .blk 23 10)], 195⟩ ⟨[.slot 7 (.one (.d (.int .i64))), .kr 1 1, .kr 8 17], [(3, .blk 23 10)], 195⟩ false [] (.s .n (.b (.s .n (.s (.r [(3, 0)]) .n))))) .n))
theorem run_into.e (t : TplT tab (run_into.S).args) : (run_into.S).fn t = Dfn tt [run_gone.S] (run_into.S) (codeOf Tryd.f26) run_into.h t := by kernel_rfl
theorem run_into.H : Good Tryd.prog (run_into.S) := good_of ttok mixed Tryd.func26 (by kernel_rfl) (by kernel_rfl) (specs_cons run_gone.H specs_nil) (run_into.e)
def run_Into.A : Tpl := ⟨[.slot 0 (.dat (.st 0)), .slot 1 (.one (.d (.int .i64))), .slot 2 (.one (.d (.int .i64)))], [], 0⟩
def run_Into.R : Tpl := ⟨[.slot 6 (.one (.d (.int .i64))), .slot 7 (.one (.d (.int .i64)))], [], 3⟩
def run_Into.S : Spec tab := ⟨12, run_Into.A, run_Into.R, [6, 7], fun (t : TplT tab run_Into.A) => run_Into t.1 t.2.1 t.2.2⟩
def run_Into.h : Hint := .s .n (.s (.s (.r [(1, 0)]) .n) (.s (.cut ⟨[.slot 21 (.one (.d .bool)), .kr 14 7], [(3, .blk 23 10)], 515⟩ false [] (.r [(1, 1), (5, 1)]) .n) (.s (.r [(3, 2)]) .n)))
theorem run_Into.e (t : TplT tab (run_Into.S).args) : (run_Into.S).fn t = Dfn tt [run_Check.S, run_within.S, run_into.S] (run_Into.S) (codeOf Tryd.f12) run_Into.h t := by kernel_rfl
theorem run_Into.H : Good Tryd.prog (run_Into.S) := good_of ttok mixed Tryd.func12 (by kernel_rfl) (by kernel_rfl) (specs_cons run_Check.H (specs_cons run_within.H (specs_cons run_into.H specs_nil))) (run_Into.e)
def run_Stop.A : Tpl := ⟨[.slot 0 (.dat (.st 0)), .slot 1 (.one (.d (.int .i64)))], [], 0⟩
def run_Stop.R : Tpl := ⟨[.slot 4 (.one (.d (.int .i64))), .slot 5 (.one (.d (.int .i64)))], [], 2⟩
def run_Stop.S : Spec tab := ⟨11, run_Stop.A, run_Stop.R, [4, 5], fun (t : TplT tab run_Stop.A) => run_Stop t.1 t.2⟩
def run_Stop.h : Hint := .s .n (.s (.r [(2, 0)]) .n)
theorem run_Stop.e (t : TplT tab (run_Stop.S).args) : (run_Stop.S).fn t = Dfn tt [run_Into.S] (run_Stop.S) (codeOf Tryd.f11) run_Stop.h t := by kernel_rfl
theorem run_Stop.H : Good Tryd.prog (run_Stop.S) := good_of ttok mixed Tryd.func11 (by kernel_rfl) (by kernel_rfl) (specs_cons run_Into.H specs_nil) (run_Stop.e)
def fishkeep1_RunStands.A : Tpl := ⟨[.slot 0 (.dat (.st 0)), .slot 1 (.one (.d (.int .i64))), .slot 2 (.one (.d (.int .i64)))], [], 0⟩
def fishkeep1_RunStands.R : Tpl := ⟨[.slot 6 (.one (.d .bool))], [], 3⟩
def fishkeep1_RunStands.S : Spec tab := ⟨3, fishkeep1_RunStands.A, fishkeep1_RunStands.R, [6], fun (t : TplT tab fishkeep1_RunStands.A) => fishkeep1_RunStands t.1 t.2.1 t.2.2⟩
def fishkeep1_RunStands.h : Hint := .s .n (.s (.s (.r [(0, 0)]) .n) (.s (.cut ⟨[.slot 37 (.one (.d .bool)), .kr 19 18], [(3, .blk 23 10)], 259⟩ false [] (.r [(1, 1)]) .n) (.s .n (.s .n (.s (.r [(2, 2)]) (.s (.r [(2, 2)]) (.s (.r [(3, 2)]) (.s (.cut ⟨[.slot 89 (.one (.d .bool)), .kr 64 25], [(3, .blk 23 10)], 2437⟩ false [] .n .n) (.s (.r [(3, 3)]) (.s (.s .n (.c (.cut ⟨[.slot 6 (.one (.d .bool)), .kr 100 6], [(3, .blk 23 10)], 3207⟩ false [] .n .n) .n)) (.s .n (.s (.r [(3, 3)]) (.cut ⟨[.slot 6 (.one (.d .bool)), .kr 118 17], [(3, .blk 23 10)], 4167⟩ false [] .n .n)))))))))))))
theorem fishkeep1_RunStands.e (t : TplT tab (fishkeep1_RunStands.S).args) : (fishkeep1_RunStands.S).fn t = Dfn tt [fishkeep1_awakeRun.S, run_Check.S, run_Stop.S, run_Into.S] (fishkeep1_RunStands.S) (codeOf Tryd.f3) fishkeep1_RunStands.h t := by kernel_rfl
theorem fishkeep1_RunStands.H : Good Tryd.prog (fishkeep1_RunStands.S) := good_of ttok mixed Tryd.func3 (by kernel_rfl) (by kernel_rfl) (specs_cons fishkeep1_awakeRun.H (specs_cons run_Check.H (specs_cons run_Stop.H (specs_cons run_Into.H specs_nil)))) (fishkeep1_RunStands.e)
def line_Meets_1.A : Tpl := ⟨[.slot 0 (.dat (.st 2))], [], 0⟩
def line_Meets_1.R : Tpl := ⟨[.slot 2 (.one (.d .bool))], [], 1⟩
def line_Meets_1.S : Spec tab := ⟨36, line_Meets_1.A, line_Meets_1.R, [2], fun (t : TplT tab line_Meets_1.A) => line_Meets_1 t⟩
def line_Meets_1.h : Hint := .s .n (.cut ⟨[.slot 2 (.one (.d .bool)), .kr 3 8], [(1, .blk 34 4)], 129⟩ false [] .n .n)
theorem line_Meets_1.e (t : TplT tab (line_Meets_1.S).args) : (line_Meets_1.S).fn t = Dfn tt [] (line_Meets_1.S) (codeOf Tryd.f36) line_Meets_1.h t := by kernel_rfl
theorem line_Meets_1.H : Good Tryd.prog (line_Meets_1.S) := good_of ttok mixed Tryd.func36 (by kernel_rfl) (by kernel_rfl) specs_nil (line_Meets_1.e)
def line_Meets_2.A : Tpl := ⟨[.slot 0 (.dat (.st 2)), .slot 1 (.dat (.st 2)), .slot 2 (.one (.ptr 0 0)), .blk 0 83 1, .cell 0 0 (.fn0 36)], [(0, .blk 83 1)], 1⟩
def line_Meets_2.R : Tpl := ⟨[.slot 5 (.one (.d .bool)), .cell 0 0 (.fn0 36)], [(0, .blk 83 1)], 6⟩
def line_Meets_2.S : Spec tab := ⟨37, line_Meets_2.A, line_Meets_2.R, [5], fun (t : TplT tab line_Meets_2.A) => line_Meets_2 t.1 t.2⟩
def line_Meets_2.h : Hint := .s .n (.cut ⟨[.slot 5 (.one (.d .bool)), .kr 6 20], [(0, .blk 83 1), (6, .blk 34 4), (70, .blk 34 4)], 198⟩ false [] (.r [(10, 0)]) .n)
theorem line_Meets_2.e (t : TplT tab (line_Meets_2.S).args) : (line_Meets_2.S).fn t = Dfn tt [line_Meets_1.S] (line_Meets_2.S) (codeOf Tryd.f37) line_Meets_2.h t := by kernel_rfl
theorem line_Meets_2.H : Good Tryd.prog (line_Meets_2.S) := good_of ttok mixed Tryd.func37 (by kernel_rfl) (by kernel_rfl) (specs_cons line_Meets_1.H specs_nil) (line_Meets_2.e)
def line_Meets_3.A : Tpl := ⟨[.slot 0 (.dat (.st 2)), .slot 1 (.dat (.st 2))], [], 0⟩
def line_Meets_3.R : Tpl := ⟨[.slot 4 (.one (.d .bool))], [], 2⟩
def line_Meets_3.S : Spec tab := ⟨38, line_Meets_3.A, line_Meets_3.R, [4], fun (t : TplT tab line_Meets_3.A) => line_Meets_3 t.1 t.2⟩
def line_Meets_3.h : Hint := .s .n (.cut ⟨[.slot 4 (.one (.d .bool)), .kr 5 8], [(2, .blk 34 4), (66, .blk 34 4)], 194⟩ false [] .n .n)
theorem line_Meets_3.e (t : TplT tab (line_Meets_3.S).args) : (line_Meets_3.S).fn t = Dfn tt [] (line_Meets_3.S) (codeOf Tryd.f38) line_Meets_3.h t := by kernel_rfl
theorem line_Meets_3.H : Good Tryd.prog (line_Meets_3.S) := good_of ttok mixed Tryd.func38 (by kernel_rfl) (by kernel_rfl) specs_nil (line_Meets_3.e)
def line_Meets.A : Tpl := ⟨[.slot 0 (.dat (.st 2)), .slot 1 (.dat (.st 2))], [], 0⟩
def line_Meets.R : Tpl := ⟨[.slot 4 (.one (.d .bool))], [], 2⟩
def line_Meets.S : Spec tab := ⟨27, line_Meets.A, line_Meets.R, [4], fun (t : TplT tab line_Meets.A) => line_Meets t.1 t.2⟩
def line_Meets.h : Hint := .s .n (.s .n (.s .n (.s .n (.s .n (.cut ⟨[.slot 4 (.one (.d .bool)), .cell 514 0 (.fn0 36), .kr 14 32], [(2, .blk 34 4), (66, .blk 34 4), (514, .blk 83 1)], 834⟩ false [] (.r [(2, 0), (6, 0), (12, 1), (18, 1), (24, 2), (30, 2)]) .n)))))
theorem line_Meets.e (t : TplT tab (line_Meets.S).args) : (line_Meets.S).fn t = Dfn tt [line_Meets_1.S, line_Meets_2.S, line_Meets_3.S] (line_Meets.S) (codeOf Tryd.f27) line_Meets.h t := by kernel_rfl
theorem line_Meets.H : Good Tryd.prog (line_Meets.S) := good_of ttok mixed Tryd.func27 (by kernel_rfl) (by kernel_rfl) (specs_cons line_Meets_1.H (specs_cons line_Meets_2.H (specs_cons line_Meets_3.H specs_nil))) (line_Meets.e)
def run_Headway.A : Tpl := ⟨[.slot 0 (.one (.d (.sl (.st 3)))), .slot 1 (.one (.d (.sl (.st 3))))], [], 0⟩
def run_Headway.R : Tpl := ⟨[.slot 4 (.one (.d (.int .i64)))], [], 2⟩
def run_Headway.S : Spec tab := ⟨13, run_Headway.A, run_Headway.R, [4], fun (t : TplT tab run_Headway.A) => run_Headway t.1 t.2⟩
def run_Headway.h : Hint := .s .n (.s .n (.s (.s .n (.rg ⟨[.slot 5 (.one (.d (.int .i64))), .kr 7 1, .kr 9 1, .kr 14 21], [], 322⟩ false (.b (.s .n (.s .n (.rg ⟨[.slot 5 (.one (.d (.int .i64))), .kr 9 1, .kr 20 14], [(454, .blk 36 6)], 774⟩ false (.b (.s .n (.s (.r [(4, 0)]) .n))))))))) .n))
theorem run_Headway.e (t : TplT tab (run_Headway.S).args) : (run_Headway.S).fn t = Dfn tt [line_Meets.S] (run_Headway.S) (codeOf Tryd.f13) run_Headway.h t := by kernel_rfl
theorem run_Headway.H : Good Tryd.prog (run_Headway.S) := good_of ttok mixed Tryd.func13 (by kernel_rfl) (by kernel_rfl) (specs_cons line_Meets.H specs_nil) (run_Headway.e)
def run_Conflicts.A : Tpl := ⟨[.slot 0 (.one (.d (.sl (.st 3)))), .slot 1 (.one (.d (.sl (.st 3))))], [], 0⟩
def run_Conflicts.R : Tpl := ⟨[.slot 4 (.one (.own 2 (.st 4))), .arr 2 (.st 4) 0], [(2, .arr (.st 4))], 3⟩
def run_Conflicts.S : Spec tab := ⟨14, run_Conflicts.A, run_Conflicts.R, [4], fun (t : TplT tab run_Conflicts.A) => run_Conflicts t.1 t.2⟩
def run_Conflicts.h : Hint := .s .n (.s .n (.s (.s .n (.rg ⟨[.slot 5 (.one (.own 322 (.st 4))), .arr 322 (.st 4) 0, .kr 6 4, .kr 14 36], [(322, .arr (.st 4))], 323⟩ false (.b (.s .n (.s .n (.rg ⟨[.slot 5 (.one (.own 903 (.st 4))), .rm 322, .arr 903 (.st 4) 0, .kr 8 2, .kr 21 28], [(519, .blk 36 6), (903, .arr (.st 4))], 904⟩ false (.b (.s .n (.cut ⟨[.slot 42 (.one (.d .bool)), .kr 24 18], [(519, .blk 36 6), (903, .arr (.st 4)), (1101, .blk 36 6)], 1293⟩ false [] (.r [(4, 0)]) .n))))))))) .n))
theorem run_Conflicts.e (t : TplT tab (run_Conflicts.S).args) : (run_Conflicts.S).fn t = Dfn tt [line_Meets.S] (run_Conflicts.S) (codeOf Tryd.f14) run_Conflicts.h t := by kernel_rfl
theorem run_Conflicts.H : Good Tryd.prog (run_Conflicts.S) := good_of ttok mixed Tryd.func14 (by kernel_rfl) (by kernel_rfl) (specs_cons line_Meets.H specs_nil) (run_Conflicts.e)
def fishkeep1_RunApart.A : Tpl := ⟨[.slot 0 (.one (.d (.sl (.st 3)))), .slot 1 (.one (.d (.sl (.st 3)))), .slot 2 (.one (.d (.int .i64)))], [], 0⟩
def fishkeep1_RunApart.R : Tpl := ⟨[.slot 6 (.one (.d .bool))], [], 3⟩
def fishkeep1_RunApart.S : Spec tab := ⟨4, fishkeep1_RunApart.A, fishkeep1_RunApart.R, [6], fun (t : TplT tab fishkeep1_RunApart.A) => fishkeep1_RunApart t.1 t.2.1 t.2.2⟩
def fishkeep1_RunApart.h : Hint := .s .n (.s (.s (.r [(0, 0)]) .n) (.s (.cut ⟨[.slot 22 (.one (.d .bool)), .kr 17 5], [], 195⟩ false [] .n .n) (.s (.s .n (.rg ⟨[.kr 8 1, .kr 10 1, .kr 29 27], [(325, .arr (.sl (.st 3)))], 517⟩ true (.b (.s .n (.s .n (.rg ⟨[.kr 10 1, .kr 35 20], [(325, .arr (.sl (.st 3)))], 904⟩ true (.b (.s .n (.cut ⟨[.slot 54 (.one (.d .bool)), .kr 37 17], [(325, .arr (.sl (.st 3))), (1034, .blk 36 6)], 1162⟩ false [] .n .n))))))))) (.s (.r [(2, 1)]) (.s .n (.s (.s .n (.rg ⟨[.slot 12 (.one (.own 1032 (.st 3))), .arr 1032 (.st 3) 0, .kr 14 1, .kr 64 36], [(325, .arr (.sl (.st 3))), (1032, .arr (.st 3))], 1033⟩ true (.b (.s .n (.s (.cut ⟨[.slot 81 (.one (.d .bool)), .kr 66 15], [(325, .arr (.sl (.st 3))), (1032, .arr (.st 3)), (1165, .blk 36 6)], 1293⟩ false [] .n .n) .n))))) (.cut ⟨[.slot 6 (.one (.d .bool)), .frz 1032 (.st 3) 0, .kr 101 9], [(325, .arr (.sl (.st 3)))], 1037⟩ false [] (.r [(5, 2)]) .n)))))))
theorem fishkeep1_RunApart.e (t : TplT tab (fishkeep1_RunApart.S).args) : (fishkeep1_RunApart.S).fn t = Dfn tt [fishkeep1_awakeRun.S, run_Headway.S, run_Conflicts.S] (fishkeep1_RunApart.S) (codeOf Tryd.f4) fishkeep1_RunApart.h t := by kernel_rfl
theorem fishkeep1_RunApart.H : Good Tryd.prog (fishkeep1_RunApart.S) := good_of ttok mixed Tryd.func4 (by kernel_rfl) (by kernel_rfl) (specs_cons fishkeep1_awakeRun.H (specs_cons run_Headway.H (specs_cons run_Conflicts.H specs_nil))) (fishkeep1_RunApart.e)
def run_Allowed.A : Tpl := ⟨[.slot 0 (.dat (.st 0)), .slot 1 (.one (.d (.int .i64))), .slot 2 (.one (.d (.int .i64)))], [], 0⟩
def run_Allowed.R : Tpl := ⟨[.slot 6 (.one (.d (.int .i64))), .slot 7 (.one (.d (.int .i64)))], [], 3⟩
def run_Allowed.S : Spec tab := ⟨15, run_Allowed.A, run_Allowed.R, [6, 7], fun (t : TplT tab run_Allowed.A) => run_Allowed t.1 t.2.1 t.2.2⟩
def run_Allowed.h : Hint := .s .n (.s (.s (.r [(1, 0)]) .n) (.s (.cut ⟨[.slot 23 (.one (.d .bool)), .kr 17 6], [(3, .blk 23 10)], 515⟩ false [] (.r [(4, 1)]) .n) (.s .n (.s (.lp ⟨[.slot 9 (.one (.d (.int .i64))), .slot 10 (.one (.d (.int .i64))), .kr 11 1, .kr 30 17], [(3, .blk 23 10)], 1029⟩ ⟨[.slot 9 (.one (.d (.int .i64))), .kr 10 2, .kr 30 17], [(3, .blk 23 10)], 1029⟩ false [] (.s .n (.b (.s .n (.s (.r [(3, 2)]) .n))))) .n))))
theorem run_Allowed.e (t : TplT tab (run_Allowed.S).args) : (run_Allowed.S).fn t = Dfn tt [run_Check.S, run_within.S, run_into.S] (run_Allowed.S) (codeOf Tryd.f15) run_Allowed.h t := by kernel_rfl
theorem run_Allowed.H : Good Tryd.prog (run_Allowed.S) := good_of ttok mixed Tryd.func15 (by kernel_rfl) (by kernel_rfl) (specs_cons run_Check.H (specs_cons run_within.H (specs_cons run_into.H specs_nil))) (run_Allowed.e)
def fishkeep1_RunAllowed.A : Tpl := ⟨[.slot 0 (.dat (.st 0)), .slot 1 (.one (.d (.int .i64))), .slot 2 (.one (.d (.int .i64)))], [], 0⟩
def fishkeep1_RunAllowed.R : Tpl := ⟨[.slot 6 (.one (.d .bool))], [], 3⟩
def fishkeep1_RunAllowed.S : Spec tab := ⟨5, fishkeep1_RunAllowed.A, fishkeep1_RunAllowed.R, [6], fun (t : TplT tab fishkeep1_RunAllowed.A) => fishkeep1_RunAllowed t.1 t.2.1 t.2.2⟩
def fishkeep1_RunAllowed.h : Hint := .s .n (.s (.s (.r [(0, 0)]) .n) (.s (.r [(3, 1)]) (.s .n (.s (.r [(3, 2)]) (.s (.cut ⟨[.slot 50 (.one (.d .bool)), .kr 30 20], [(3, .blk 23 10)], 1539⟩ false [] .n .n) (.s .n (.s (.r [(4, 2)]) (.cut ⟨[.slot 6 (.one (.d .bool)), .kr 63 7], [(3, .blk 23 10)], 2437⟩ false [] .n .n))))))))
theorem fishkeep1_RunAllowed.e (t : TplT tab (fishkeep1_RunAllowed.S).args) : (fishkeep1_RunAllowed.S).fn t = Dfn tt [fishkeep1_awakeRun.S, run_Allowed.S, run_Into.S] (fishkeep1_RunAllowed.S) (codeOf Tryd.f5) fishkeep1_RunAllowed.h t := by kernel_rfl
theorem fishkeep1_RunAllowed.H : Good Tryd.prog (fishkeep1_RunAllowed.S) := good_of ttok mixed Tryd.func5 (by kernel_rfl) (by kernel_rfl) (specs_cons fishkeep1_awakeRun.H (specs_cons run_Allowed.H (specs_cons run_Into.H specs_nil))) (fishkeep1_RunAllowed.e)
def run_Smooth_1.A : Tpl := ⟨[.slot 0 (.one (.d (.int .i64))), .slot 1 (.one (.d (.opt (.sl (.int .i64))))), .slot 2 (.one (.d (.opt (.sl (.int .i64))))), .slot 3 (.one (.d (.opt (.int .i64))))], [], 0⟩
def run_Smooth_1.R : Tpl := ⟨[.slot 5 (.one (.d .bool))], [], 4⟩
def run_Smooth_1.S : Spec tab := ⟨28, run_Smooth_1.A, run_Smooth_1.R, [5], fun (t : TplT tab run_Smooth_1.A) => run_Smooth_1 t.1 t.2.1 t.2.2.1 t.2.2.2⟩
def run_Smooth_1.h : Hint := .s .n (.s (.s .n (.rg ⟨[.kr 6 2, .kr 12 13], [], 260⟩ true .n)) .n)
theorem run_Smooth_1.e (t : TplT tab (run_Smooth_1.S).args) : (run_Smooth_1.S).fn t = Dfn tt [] (run_Smooth_1.S) (codeOf Tryd.f28) run_Smooth_1.h t := by kernel_rfl
theorem run_Smooth_1.H : Good Tryd.prog (run_Smooth_1.S) := good_of ttok mixed Tryd.func28 (by kernel_rfl) (by kernel_rfl) specs_nil (run_Smooth_1.e)
def run_Smooth.A : Tpl := ⟨[.slot 0 (.one (.d (.sl (.sl (.int .i64))))), .slot 1 (.one (.d (.int .i64))), .slot 2 (.one (.d (.int .i64)))], [], 0⟩
def run_Smooth.R : Tpl := ⟨[.slot 6 (.one (.own 3 (.int .i64))), .slot 7 (.one (.d (.int .i64))), .arr 3 (.int .i64) 0], [(3, .arr (.int .i64))], 4⟩
def run_Smooth.S : Spec tab := ⟨16, run_Smooth.A, run_Smooth.R, [6, 7], fun (t : TplT tab run_Smooth.A) => run_Smooth t.1 t.2.1 t.2.2⟩
def run_Smooth.h : Hint := .s .n (.s .n (.s (.s .n (.rg ⟨[.kr 9 1, .kr 29 5], [(3, .blk 3 1)], 579⟩ true .n)) (.s (.s .n (.rg ⟨[.kr 11 1, .kr 13 1, .kr 39 12], [(3, .blk 3 1)], 773⟩ true (.b (.s .n (.s .n (.rg ⟨[.kr 13 1, .kr 45 5], [(3, .blk 3 1)], 1160⟩ true (.b (.s .n (.s (.r [(1, 0)]) .n))))))))) (.s (.cut ⟨[.slot 59 (.one (.d .bool)), .kr 52 7], [(3, .blk 3 1)], 776⟩ false [] (.r [(1, 0), (5, 0)]) .n) (.s .n (.s .n (.s (.s .n (.rg ⟨[.slot 15 (.one (.own 1354 (.int .i64))), .arr 906 (.int .i64) 1, .arr 1354 (.int .i64) 0, .kr 17 5, .kr 67 38], [(3, .blk 3 1), (906, .arr (.int .i64)), (970, .blk 42 1), (1354, .arr (.int .i64))], 1355⟩ true (.b (.s .n (.s .n (.s .n (.s (.lp ⟨[.slot 19 (.one (.d (.int .i64))), .kr 70 11], [(3, .blk 3 1), (906, .arr (.int .i64)), (970, .blk 42 1), (1354, .arr (.int .i64)), (1488, .blk 42 1)], 1808⟩ ⟨[.slot 19 (.one (.d (.int .i64))), .kr 70 11], [(3, .blk 3 1), (906, .arr (.int .i64)), (970, .blk 42 1), (1354, .arr (.int .i64)), (1488, .blk 42 1)], 1808⟩ false [] (.s (.cut ⟨[.slot 78 (.one (.d .bool)), .kr 70 8], [(3, .blk 3 1), (906, .arr (.int .i64)), (970, .blk 42 1), (1354, .arr (.int .i64)), (1488, .blk 42 1)], 1810⟩ false [] (.r [(6, 1)]) .n) .n)) (.s .n (.s (.s .n (.rg ⟨[.arr 906 (.int .i64) 1, .kr 20 2, .kr 88 12], [(3, .blk 3 1), (906, .arr (.int .i64)), (970, .blk 42 1), (1354, .arr (.int .i64)), (1488, .blk 42 1)], 2194⟩ false .n)) .n))))))))) .n)))))))
theorem run_Smooth.e (t : TplT tab (run_Smooth.S).args) : (run_Smooth.S).fn t = Dfn tt [run_within.S, run_Smooth_1.S] (run_Smooth.S) (codeOf Tryd.f16) run_Smooth.h t := by kernel_rfl
theorem run_Smooth.H : Good Tryd.prog (run_Smooth.S) := good_of ttok mixed Tryd.func16 (by kernel_rfl) (by kernel_rfl) (specs_cons run_within.H (specs_cons run_Smooth_1.H specs_nil)) (run_Smooth.e)
def fishkeep1_fits.A : Tpl := ⟨[.slot 0 (.one (.d (.sl (.int .i64)))), .slot 1 (.one (.d (.sl (.int .i64)))), .slot 2 (.one (.d (.int .i64))), .slot 3 (.one (.d (.int .i64)))], [], 0⟩
def fishkeep1_fits.R : Tpl := ⟨[.slot 8 (.one (.d .bool))], [], 4⟩
def fishkeep1_fits.S : Spec tab := ⟨17, fishkeep1_fits.A, fishkeep1_fits.R, [8], fun (t : TplT tab fishkeep1_fits.A) => fishkeep1_fits t.1 t.2.1 t.2.2.1 t.2.2.2⟩
def fishkeep1_fits.h : Hint := .s .n (.s (.s .n (.rg ⟨[.kr 9 2, .kr 15 13], [], 260⟩ true .n)) .n)
theorem fishkeep1_fits.e (t : TplT tab (fishkeep1_fits.S).args) : (fishkeep1_fits.S).fn t = Dfn tt [] (fishkeep1_fits.S) (codeOf Tryd.f17) fishkeep1_fits.h t := by kernel_rfl
theorem fishkeep1_fits.H : Good Tryd.prog (fishkeep1_fits.S) := good_of ttok mixed Tryd.func17 (by kernel_rfl) (by kernel_rfl) specs_nil (fishkeep1_fits.e)
def fishkeep1_RunSmooth.A : Tpl := ⟨[.slot 0 (.one (.d (.sl (.sl (.int .i64))))), .slot 1 (.one (.d (.int .i64))), .slot 2 (.one (.d (.int .i64)))], [], 0⟩
def fishkeep1_RunSmooth.R : Tpl := ⟨[.slot 6 (.one (.d .bool))], [], 3⟩
def fishkeep1_RunSmooth.S : Spec tab := ⟨6, fishkeep1_RunSmooth.A, fishkeep1_RunSmooth.R, [6], fun (t : TplT tab fishkeep1_RunSmooth.A) => fishkeep1_RunSmooth t.1 t.2.1 t.2.2⟩
def fishkeep1_RunSmooth.h : Hint := .s .n (.s (.s (.r [(0, 0)]) .n) (.s (.r [(3, 1)]) (.s .n (.s .n (.s .n (.s (.s .n (.rg ⟨[.arr 1219 (.int .i64) 1, .kr 10 4, .kr 38 65], [(390, .arr (.int .i64)), (1219, .arr (.int .i64))], 1539⟩ true (.b (.s .n (.s (.cut ⟨[.slot 82 (.one (.d .bool)), .kr 41 41], [(390, .arr (.int .i64)), (1219, .arr (.int .i64))], 1862⟩ false [] (.r [(21, 2), (39, 2)]) .n) (.s .n (.rg ⟨[.arr 1219 (.int .i64) 1, .kr 12 2, .kr 87 15], [(390, .arr (.int .i64)), (1219, .arr (.int .i64))], 2056⟩ false .n))))))) .n))))))
theorem fishkeep1_RunSmooth.e (t : TplT tab (fishkeep1_RunSmooth.S).args) : (fishkeep1_RunSmooth.S).fn t = Dfn tt [fishkeep1_awakeRun.S, run_Smooth.S, fishkeep1_fits.S] (fishkeep1_RunSmooth.S) (codeOf Tryd.f6) fishkeep1_RunSmooth.h t := by kernel_rfl
theorem fishkeep1_RunSmooth.H : Good Tryd.prog (fishkeep1_RunSmooth.S) := good_of ttok mixed Tryd.func6 (by kernel_rfl) (by kernel_rfl) (specs_cons fishkeep1_awakeRun.H (specs_cons run_Smooth.H (specs_cons fishkeep1_fits.H specs_nil))) (fishkeep1_RunSmooth.e)
end Hd
