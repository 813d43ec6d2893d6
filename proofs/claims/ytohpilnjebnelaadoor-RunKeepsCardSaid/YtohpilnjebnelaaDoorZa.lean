/- Each call returns what its plain function gives. Printed by a tool. -/
import Derived.Test.YtohpilnjebnelaaDoorZT
set_option linter.unusedVariables false
set_option linter.unusedSimpArgs false
set_option maxRecDepth 100000
set_option maxHeartbeats 4000000
namespace Hd
open Go Hk Go.Proofs
def internal_stringslite_HasSuffix.A : Tpl := ⟨[.slot 0 (.one (.ks (⟨#[120]⟩ : ByteArray))), .slot 1 (.one (.ks (⟨#[10]⟩ : ByteArray)))], [], 0⟩
def internal_stringslite_HasSuffix.R : Tpl := ⟨[.slot 4 (.one (.kb false))], [], 2⟩
def internal_stringslite_HasSuffix.S : Spec tab := ⟨61, internal_stringslite_HasSuffix.A, internal_stringslite_HasSuffix.R, [4], fun _ => internal_stringslite_HasSuffix⟩
def internal_stringslite_HasSuffix.h : Hint := .s .n (.cut ⟨[.slot 4 (.one (.kb false)), .kr 5 16], [], 66⟩ false [] .n .n)
theorem internal_stringslite_HasSuffix.e (t : TplT tab (internal_stringslite_HasSuffix.S).args) : (internal_stringslite_HasSuffix.S).fn t = Dfn tt [] (internal_stringslite_HasSuffix.S) (codeOf Tryd.f61) internal_stringslite_HasSuffix.h t := by kernel_rfl
theorem internal_stringslite_HasSuffix.H : Good Tryd.prog (internal_stringslite_HasSuffix.S) := good_of ttok mixed Tryd.func61 (by kernel_rfl) (by kernel_rfl) specs_nil (internal_stringslite_HasSuffix.e)
def internal_stringslite_CutSuffix.A : Tpl := ⟨[.slot 0 (.one (.ks (⟨#[120]⟩ : ByteArray))), .slot 1 (.one (.ks (⟨#[10]⟩ : ByteArray)))], [], 0⟩
def internal_stringslite_CutSuffix.R : Tpl := ⟨[.slot 4 (.one (.ks (⟨#[120]⟩ : ByteArray))), .slot 5 (.one (.kb false))], [], 2⟩
def internal_stringslite_CutSuffix.S : Spec tab := ⟨52, internal_stringslite_CutSuffix.A, internal_stringslite_CutSuffix.R, [4, 5], fun _ => internal_stringslite_CutSuffix⟩
def internal_stringslite_CutSuffix.h : Hint := .s .n (.s (.s (.r [(2, 0)]) .n) .n)
theorem internal_stringslite_CutSuffix.e (t : TplT tab (internal_stringslite_CutSuffix.S).args) : (internal_stringslite_CutSuffix.S).fn t = Dfn tt [internal_stringslite_HasSuffix.S] (internal_stringslite_CutSuffix.S) (codeOf Tryd.f52) internal_stringslite_CutSuffix.h t := by kernel_rfl
theorem internal_stringslite_CutSuffix.H : Good Tryd.prog (internal_stringslite_CutSuffix.S) := good_of ttok mixed Tryd.func52 (by kernel_rfl) (by kernel_rfl) (specs_cons internal_stringslite_HasSuffix.H specs_nil) (internal_stringslite_CutSuffix.e)
def strings_CutSuffix.A : Tpl := ⟨[.slot 0 (.one (.ks (⟨#[120]⟩ : ByteArray))), .slot 1 (.one (.ks (⟨#[10]⟩ : ByteArray)))], [], 0⟩
def strings_CutSuffix.R : Tpl := ⟨[.slot 4 (.one (.ks (⟨#[120]⟩ : ByteArray))), .slot 5 (.one (.kb false))], [], 2⟩
def strings_CutSuffix.S : Spec tab := ⟨42, strings_CutSuffix.A, strings_CutSuffix.R, [4, 5], fun _ => strings_CutSuffix⟩
def strings_CutSuffix.h : Hint := .s .n (.s (.r [(2, 0)]) .n)
theorem strings_CutSuffix.e (t : TplT tab (strings_CutSuffix.S).args) : (strings_CutSuffix.S).fn t = Dfn tt [internal_stringslite_CutSuffix.S] (strings_CutSuffix.S) (codeOf Tryd.f42) strings_CutSuffix.h t := by kernel_rfl
theorem strings_CutSuffix.H : Good Tryd.prog (strings_CutSuffix.S) := good_of ttok mixed Tryd.func42 (by kernel_rfl) (by kernel_rfl) (specs_cons internal_stringslite_CutSuffix.H specs_nil) (strings_CutSuffix.e)
def strings_Split.A : Tpl := ⟨[.slot 0 (.one (.d .str)), .slot 1 (.one (.ks (⟨#[10]⟩ : ByteArray)))], [], 0⟩
def strings_Split.R : Tpl := ⟨[.slot 4 (.one (.own 2 .str)), .arr 2 .str 2], [(2, .arr .str)], 3⟩
def strings_Split.S : Spec tab := ⟨43, strings_Split.A, strings_Split.R, [4], fun (t : ByteArray) => ssplit 10 t⟩
theorem strings_Split.H : Good Tryd.prog strings_Split.S := split_good (B := tab) Tryd.lays146 (by kernel_rfl) (by kernel_rfl) 10 4
def strings_Split_v2.A : Tpl := ⟨[.slot 0 (.one (.d .str)), .slot 1 (.one (.ks (⟨#[32]⟩ : ByteArray)))], [], 0⟩
def strings_Split_v2.R : Tpl := ⟨[.slot 4 (.one (.own 2 .str)), .arr 2 .str 2], [(2, .arr .str)], 3⟩
def strings_Split_v2.S : Spec tab := ⟨43, strings_Split_v2.A, strings_Split_v2.R, [4], fun (t : ByteArray) => ssplit 32 t⟩
theorem strings_Split_v2.H : Good Tryd.prog strings_Split_v2.S := split_good (B := tab) Tryd.lays146 (by kernel_rfl) (by kernel_rfl) 32 4
def line_Lines.A : Tpl := ⟨[.slot 0 (.one (.ks (⟨#[120]⟩ : ByteArray)))], [], 0⟩
def line_Lines.R : Tpl := ⟨[.slot 2 (.one (.own 1 (.sl .str))), .slot 3 (.one (.kb false)), .arr 1 (.sl .str) 0], [(1, .arr (.sl .str))], 2⟩
def line_Lines.S : Spec tab := ⟨32, line_Lines.A, line_Lines.R, [2, 3], fun _ => line_Lines⟩
def line_Lines.h : Hint := .s .n (.s .n (.s (.r [(1, 0)]) (.s .n (.s (.s (.r [(1, 1)]) (.rg ⟨[.slot 6 (.one (.own 1025 (.sl .str))), .arr 1025 (.sl .str) 0, .kr 8 1, .kr 21 7], [(835, .arr .str), (1025, .arr (.sl .str))], 1026⟩ false (.b (.s .n (.r [(2, 2)]))))) .n))))
theorem line_Lines.e (t : TplT tab (line_Lines.S).args) : (line_Lines.S).fn t = Dfn tt [strings_CutSuffix.S, strings_Split.S, strings_Split_v2.S] (line_Lines.S) (codeOf Tryd.f32) line_Lines.h t := by kernel_rfl
theorem line_Lines.H : Good Tryd.prog (line_Lines.S) := good_of ttok mixed Tryd.func32 (by kernel_rfl) (by kernel_rfl) (specs_cons strings_CutSuffix.H (specs_cons strings_Split.H (specs_cons strings_Split_v2.H specs_nil))) (line_Lines.e)
def run_Read.A : Tpl := ⟨[.slot 0 (.one (.ks (⟨#[120]⟩ : ByteArray)))], [], 0⟩
def run_Read.R : Tpl := ⟨[.slot 2 (.one (.nils)), .slot 3 (.one (.ki .i64 10))], [], 1⟩
def run_Read.S : Spec tab := ⟨22, run_Read.A, run_Read.R, [2, 3], fun _ => run_Read⟩
def run_Read.h : Hint := .s .n (.s .n (.s (.r [(1, 0)]) .n))
theorem run_Read.e (t : TplT tab (run_Read.S).args) : (run_Read.S).fn t = Dfn tt [line_Lines.S] (run_Read.S) (codeOf Tryd.f22) run_Read.h t := by kernel_rfl
theorem run_Read.H : Good Tryd.prog (run_Read.S) := good_of ttok mixed Tryd.func22 (by kernel_rfl) (by kernel_rfl) (specs_cons line_Lines.H specs_nil) (run_Read.e)
def fishkeep1_awakeRun.A : Tpl := ⟨[], [], 0⟩
def fishkeep1_awakeRun.R : Tpl := ⟨[.slot 0 (.one (.kb true))], [], 0⟩
def fishkeep1_awakeRun.S : Spec tab := ⟨9, fishkeep1_awakeRun.A, fishkeep1_awakeRun.R, [0], fun _ => fishkeep1_awakeRun⟩
def fishkeep1_awakeRun.h : Hint := .s .n (.s (.r [(0, 0)]) .n)
theorem fishkeep1_awakeRun.e (t : TplT tab (fishkeep1_awakeRun.S).args) : (fishkeep1_awakeRun.S).fn t = Dfn tt [run_Read.S] (fishkeep1_awakeRun.S) (codeOf Tryd.f9) fishkeep1_awakeRun.h t := by kernel_rfl
theorem fishkeep1_awakeRun.H : Good Tryd.prog (fishkeep1_awakeRun.S) := good_of ttok mixed Tryd.func9 (by kernel_rfl) (by kernel_rfl) (specs_cons run_Read.H specs_nil) (fishkeep1_awakeRun.e)
def run_name.A : Tpl := ⟨[.slot 0 (.one (.d .str))], [], 0⟩
def run_name.R : Tpl := ⟨[.slot 2 (.one (.d .bool))], [], 1⟩
def run_name.S : Spec tab := ⟨23, run_name.A, run_name.R, [2], fun (t : TplT tab run_name.A) => run_name t⟩
def run_name.h : Hint := .s .n (.s (.s .n (.rg ⟨[.kr 4 1, .kr 10 8], [], 321⟩ true (.b (.s .n (.cut ⟨[.slot 17 (.one (.d .bool)), .kr 12 5], [], 515⟩ false [] .n .n))))) (.cut ⟨[.slot 2 (.one (.d .bool)), .kr 19 8], [], 323⟩ false [] .n .n))
theorem run_name.e (t : TplT tab (run_name.S).args) : (run_name.S).fn t = Dfn tt [] (run_name.S) (codeOf Tryd.f23) run_name.h t := by kernel_rfl
theorem run_name.H : Good Tryd.prog (run_name.S) := good_of ttok mixed Tryd.func23 (by kernel_rfl) (by kernel_rfl) specs_nil (run_name.e)
def run_numbers.A : Tpl := ⟨[.slot 0 (.dat (.st 0))], [], 0⟩
def run_numbers.R : Tpl := ⟨[.slot 67108866 (.agg [.d (.int .i64), .d (.int .i64), .d (.int .i64), .d (.int .i64), .d (.int .i64), .d (.int .i64), .d (.int .i64), .d (.int .i64), .d (.int .i64)])], [], 1⟩
def run_numbers.S : Spec tab := ⟨24, run_numbers.A, run_numbers.R, [67108866], fun (t : TplT tab run_numbers.A) => run_numbers t⟩
def run_numbers.h : Hint := .s (.r [(1, 0)]) .n
theorem run_numbers.e (t : TplT tab (run_numbers.S).args) : (run_numbers.S).fn t = Dfn tt [] (run_numbers.S) (codeOf Tryd.f24) run_numbers.h t := by kernel_rfl
theorem run_numbers.H : Good Tryd.prog (run_numbers.S) := good_of ttok mixed Tryd.func24 (by kernel_rfl) (by kernel_rfl) specs_nil (run_numbers.e)
def run_within.A : Tpl := ⟨[.slot 0 (.one (.d (.int .i64))), .slot 1 (.one (.d (.int .i64))), .slot 2 (.one (.d (.int .i64)))], [], 0⟩
def run_within.R : Tpl := ⟨[.slot 6 (.one (.d .bool))], [], 3⟩
def run_within.S : Spec tab := ⟨25, run_within.A, run_within.R, [6], fun (t : TplT tab run_within.A) => run_within t.1 t.2.1 t.2.2⟩
def run_within.h : Hint := .s .n (.cut ⟨[.slot 6 (.one (.d .bool)), .kr 7 8], [], 67⟩ false [] .n .n)
theorem run_within.e (t : TplT tab (run_within.S).args) : (run_within.S).fn t = Dfn tt [] (run_within.S) (codeOf Tryd.f25) run_within.h t := by kernel_rfl
theorem run_within.H : Good Tryd.prog (run_within.S) := good_of ttok mixed Tryd.func25 (by kernel_rfl) (by kernel_rfl) specs_nil (run_within.e)
def run_Check.A : Tpl := ⟨[.slot 0 (.dat (.st 0))], [], 0⟩
def run_Check.R : Tpl := ⟨[.slot 2 (.one (.d (.int .i64)))], [], 1⟩
def run_Check.S : Spec tab := ⟨10, run_Check.A, run_Check.R, [2], fun (t : TplT tab run_Check.A) => run_Check t⟩
def run_Check.h : Hint := .s .n (.s (.s (.r [(2, 0)]) .n) (.s .n (.s (.s (.r [(1, 1)]) (.lp ⟨[.slot 22 (.one (.d (.int .i64))), .kr 4 2, .kr 23 15], [(1, .blk 23 10), (1025, .arr (.int .i64))], 1345⟩ ⟨[.kr 4 2, .kr 22 16], [(1, .blk 23 10), (1025, .arr (.int .i64))], 1345⟩ true [] (.s .n (.s .n (.s (.b (.s .n (.s (.r [(9, 2)]) .n))) .n))))) .n)))
theorem run_Check.e (t : TplT tab (run_Check.S).args) : (run_Check.S).fn t = Dfn tt [run_name.S, run_numbers.S, run_within.S] (run_Check.S) (codeOf Tryd.f10) run_Check.h t := by kernel_rfl
theorem run_Check.H : Good Tryd.prog (run_Check.S) := good_of ttok mixed Tryd.func10 (by kernel_rfl) (by kernel_rfl) (specs_cons run_name.H (specs_cons run_numbers.H (specs_cons run_within.H specs_nil))) (run_Check.e)
def run_check.A : Tpl := ⟨[.slot 0 (.dat (.st 0)), .slot 1 (.one (.d (.sl (.st 1)))), .slot 2 (.dat (.st 2)), .slot 3 (.one (.d (.int .i64)))], [], 0⟩
def run_check.R : Tpl := ⟨[.slot 8 (.one (.d (.int .i64)))], [], 4⟩
def run_check.S : Spec tab := ⟨29, run_check.A, run_check.R, [8], fun (t : TplT tab run_check.A) => run_check t.1 t.2.1 t.2.2.1 t.2.2.2⟩
def run_check.h : Hint := .s .n (.s (.s (.r [(1, 0)]) .n) (.s .n (.s .n (.s (.s .n (.rg ⟨[.slot 10 (.one (.d (.int .i64))), .kr 12 1, .kr 30 22], [(4, .blk 23 10), (68, .blk 52 3)], 1284⟩ true (.b (.s .n (.s (.cut ⟨[.slot 47 (.one (.d .bool)), .kr 32 15], [(4, .blk 23 10), (68, .blk 52 3), (1415, .blk 72 3)], 1543⟩ false [] (.r [(2, 1), (7, 1), (13, 1)]) .n) .n))))) (.s (.cut ⟨[.slot 77 (.one (.d .bool)), .kr 53 24], [(4, .blk 23 10), (68, .blk 52 3)], 1287⟩ false [] (.r [(2, 1), (8, 1), (16, 1), (22, 1)]) .n) .n)))))
theorem run_check.e (t : TplT tab (run_check.S).args) : (run_check.S).fn t = Dfn tt [run_Check.S, run_within.S] (run_check.S) (codeOf Tryd.f29) run_check.h t := by kernel_rfl
theorem run_check.H : Good Tryd.prog (run_check.S) := good_of ttok mixed Tryd.func29 (by kernel_rfl) (by kernel_rfl) (specs_cons run_Check.H (specs_cons run_within.H specs_nil)) (run_check.e)
def run_newRunner.A : Tpl := ⟨[.slot 0 (.dat (.st 0)), .slot 1 (.one (.d (.sl (.st 1)))), .slot 2 (.one (.d (.int .i64))), .slot 3 (.one (.d (.int .i64)))], [], 0⟩
def run_newRunner.R : Tpl := ⟨[.slot 8 (.one (.ptr 4 0)), .blk 4 106 15, .cell 4 0 (.d .str), .cell 4 1 (.d (.int .i64)), .cell 4 2 (.d (.int .i64)), .cell 4 3 (.d (.int .i64)), .cell 4 4 (.d (.int .i64)), .cell 4 5 (.d (.int .i64)), .cell 4 6 (.d (.int .i64)), .cell 4 7 (.d (.int .i64)), .cell 4 8 (.d (.int .i64)), .cell 4 9 (.d (.int .i64)), .cell 4 10 (.d (.sl (.st 1))), .cell 4 11 (.own 5 (.int .i64)), .cell 4 12 (.d (.int .i64)), .cell 4 13 (.d (.int .i64)), .cell 4 14 (.mpr 6), .arr 5 (.int .i64) 2, .mp 6 (.int .i64) (.sl (.int .i64))], [(4, .blk 106 15), (5, .arr (.int .i64)), (6, .mp (.int .i64) (.sl (.int .i64)))], 7⟩
def run_newRunner.S : Spec tab := ⟨39, run_newRunner.A, run_newRunner.R, [8], fun (t : TplT tab run_newRunner.A) => run_newRunner t.1 t.2.1 t.2.2.1 t.2.2.2⟩
def run_newRunner.h : Hint := .s .n (.s .n (.s (.s .n (.rg ⟨[.rm 260, .cell 580 11 (.own 900 (.int .i64)), .arr 900 (.int .i64) 2, .kr 10 2, .kr 24 22], [(4, .blk 23 10), (452, .mp (.int .i64) (.sl (.int .i64))), (580, .blk 106 15), (900, .arr (.int .i64))], 901⟩ false .n)) .n))
theorem run_newRunner.e (t : TplT tab (run_newRunner.S).args) : (run_newRunner.S).fn t = Dfn tt [] (run_newRunner.S) (codeOf Tryd.f39) run_newRunner.h t := by kernel_rfl
theorem run_newRunner.H : Good Tryd.prog (run_newRunner.S) := good_of ttok mixed Tryd.func39 (by kernel_rfl) (by kernel_rfl) specs_nil (run_newRunner.e)
def run_runner_grade.A : Tpl := ⟨[.slot 0 (.one (.ptr 0 0)), .slot 1 (.one (.d (.int .i64))), .blk 0 106 15, .cell 0 0 (.d .str), .cell 0 1 (.d (.int .i64)), .cell 0 2 (.d (.int .i64)), .cell 0 3 (.d (.int .i64)), .cell 0 4 (.d (.int .i64)), .cell 0 5 (.d (.int .i64)), .cell 0 6 (.d (.int .i64)), .cell 0 7 (.d (.int .i64)), .cell 0 8 (.d (.int .i64)), .cell 0 9 (.d (.int .i64)), .cell 0 10 (.d (.sl (.st 1))), .cell 0 11 (.d (.sl (.int .i64))), .cell 0 12 (.d (.int .i64)), .cell 0 13 (.d (.int .i64)), .cell 0 14 (.mpr 1), .mp 1 (.int .i64) (.sl (.int .i64))], [(0, .blk 106 15), (1, .mp (.int .i64) (.sl (.int .i64)))], 2⟩
def run_runner_grade.R : Tpl := ⟨[.slot 4 (.one (.d (.int .i64))), .cell 0 10 (.d (.sl (.st 1))), .cell 0 11 (.d (.sl (.int .i64))), .cell 0 14 (.mpr 1)], [(0, .blk 106 15), (1, .mp (.int .i64) (.sl (.int .i64)))], 21⟩
def run_runner_grade.S : Spec tab := ⟨59, run_runner_grade.A, run_runner_grade.R, [4], fun (t : TplT tab run_runner_grade.A) => run_runner_grade t.1 t.2.1 t.2.2.1 t.2.2.2.1 t.2.2.2.2.1 t.2.2.2.2.2.1 t.2.2.2.2.2.2.1 t.2.2.2.2.2.2.2.1 t.2.2.2.2.2.2.2.2.1 t.2.2.2.2.2.2.2.2.2.1 t.2.2.2.2.2.2.2.2.2.2.1 t.2.2.2.2.2.2.2.2.2.2.2.1 t.2.2.2.2.2.2.2.2.2.2.2.2.1 t.2.2.2.2.2.2.2.2.2.2.2.2.2.1 t.2.2.2.2.2.2.2.2.2.2.2.2.2.2.1 t.2.2.2.2.2.2.2.2.2.2.2.2.2.2.2⟩
def run_runner_grade.h : Hint := .s .n (.s .n (.s (.lp ⟨[.slot 5 (.one (.d (.int .i64))), .kr 6 22], [(0, .blk 106 15), (1, .mp (.int .i64) (.sl (.int .i64)))], 149⟩ ⟨[.slot 5 (.one (.d (.int .i64))), .kr 6 22], [(0, .blk 106 15), (1, .mp (.int .i64) (.sl (.int .i64)))], 149⟩ false [] (.s (.cut ⟨[.slot 25 (.one (.d .bool)), .kr 6 19], [(0, .blk 106 15), (1, .mp (.int .i64) (.sl (.int .i64)))], 151⟩ false [] .n .n) .n)) .n))
theorem run_runner_grade.e (t : TplT tab (run_runner_grade.S).args) : (run_runner_grade.S).fn t = Dfn tt [] (run_runner_grade.S) (codeOf Tryd.f59) run_runner_grade.h t := by kernel_rfl
theorem run_runner_grade.H : Good Tryd.prog (run_runner_grade.S) := good_of ttok mixed Tryd.func59 (by kernel_rfl) (by kernel_rfl) specs_nil (run_runner_grade.e)
def run_pull.A : Tpl := ⟨[.slot 0 (.dat (.st 0)), .slot 1 (.one (.d (.int .i64)))], [], 0⟩
def run_pull.R : Tpl := ⟨[.slot 4 (.one (.d (.int .i64)))], [], 2⟩
def run_pull.S : Spec tab := ⟨51, run_pull.A, run_pull.R, [4], fun (t : TplT tab run_pull.A) => run_pull t.1 t.2⟩
def run_pull.h : Hint := .n
theorem run_pull.e (t : TplT tab (run_pull.S).args) : (run_pull.S).fn t = Dfn tt [] (run_pull.S) (codeOf Tryd.f51) run_pull.h t := by kernel_rfl
theorem run_pull.H : Good Tryd.prog (run_pull.S) := good_of ttok mixed Tryd.func51 (by kernel_rfl) (by kernel_rfl) specs_nil (run_pull.e)
def run_gain.A : Tpl := ⟨[.slot 0 (.dat (.st 0)), .slot 1 (.one (.d (.int .i64))), .slot 2 (.one (.d (.int .i64)))], [], 0⟩
def run_gain.R : Tpl := ⟨[.slot 6 (.one (.d (.int .i64)))], [], 3⟩
def run_gain.S : Spec tab := ⟨41, run_gain.A, run_gain.R, [6], fun (t : TplT tab run_gain.A) => run_gain t.1 t.2.1 t.2.2⟩
def run_gain.h : Hint := .s .n (.s (.r [(2, 0)]) .n)
theorem run_gain.e (t : TplT tab (run_gain.S).args) : (run_gain.S).fn t = Dfn tt [run_pull.S] (run_gain.S) (codeOf Tryd.f41) run_gain.h t := by kernel_rfl
theorem run_gain.H : Good Tryd.prog (run_gain.S) := good_of ttok mixed Tryd.func41 (by kernel_rfl) (by kernel_rfl) (specs_cons run_pull.H specs_nil) (run_gain.e)
def run_gone.A : Tpl := ⟨[.slot 0 (.one (.d (.int .i64))), .slot 1 (.one (.d (.int .i64)))], [], 0⟩
def run_gone.R : Tpl := ⟨[.slot 4 (.one (.d (.int .i64)))], [], 2⟩
def run_gone.S : Spec tab := ⟨35, run_gone.A, run_gone.R, [4], fun (t : TplT tab run_gone.A) => run_gone t.1 t.2⟩
def run_gone.h : Hint := .n
theorem run_gone.e (t : TplT tab (run_gone.S).args) : (run_gone.S).fn t = Dfn tt [] (run_gone.S) (codeOf Tryd.f35) run_gone.h t := by kernel_rfl
theorem run_gone.H : Good Tryd.prog (run_gone.S) := good_of ttok mixed Tryd.func35 (by kernel_rfl) (by kernel_rfl) specs_nil (run_gone.e)
def run_runner_into.A : Tpl := ⟨[.slot 0 (.one (.ptr 0 0)), .slot 1 (.one (.d (.int .i64))), .slot 2 (.one (.d (.int .i64))), .blk 0 106 15, .cell 0 0 (.d .str), .cell 0 1 (.d (.int .i64)), .cell 0 2 (.d (.int .i64)), .cell 0 3 (.d (.int .i64)), .cell 0 4 (.d (.int .i64)), .cell 0 5 (.d (.int .i64)), .cell 0 6 (.d (.int .i64)), .cell 0 7 (.d (.int .i64)), .cell 0 8 (.d (.int .i64)), .cell 0 9 (.d (.int .i64)), .cell 0 10 (.d (.sl (.st 1))), .cell 0 11 (.d (.sl (.int .i64))), .cell 0 12 (.d (.int .i64)), .cell 0 13 (.d (.int .i64)), .cell 0 14 (.mpr 1), .mp 1 (.int .i64) (.sl (.int .i64))], [(0, .blk 106 15), (1, .mp (.int .i64) (.sl (.int .i64)))], 2⟩
def run_runner_into.R : Tpl := ⟨[.slot 6 (.one (.d (.int .i64))), .mp 1 (.int .i64) (.sl (.int .i64)), .cell 0 10 (.d (.sl (.st 1))), .cell 0 11 (.d (.sl (.int .i64))), .cell 0 14 (.mpr 1)], [(0, .blk 106 15), (1, .mp (.int .i64) (.sl (.int .i64)))], 22⟩
def run_runner_into.S : Spec tab := ⟨70, run_runner_into.A, run_runner_into.R, [6], fun (t : TplT tab run_runner_into.A) => run_runner_into t.1 t.2.1 t.2.2.1 t.2.2.2.1 t.2.2.2.2.1 t.2.2.2.2.2.1 t.2.2.2.2.2.2.1 t.2.2.2.2.2.2.2.1 t.2.2.2.2.2.2.2.2.1 t.2.2.2.2.2.2.2.2.2.1 t.2.2.2.2.2.2.2.2.2.2.1 t.2.2.2.2.2.2.2.2.2.2.2.1 t.2.2.2.2.2.2.2.2.2.2.2.2.1 t.2.2.2.2.2.2.2.2.2.2.2.2.2.1 t.2.2.2.2.2.2.2.2.2.2.2.2.2.2.1 t.2.2.2.2.2.2.2.2.2.2.2.2.2.2.2.1 t.2.2.2.2.2.2.2.2.2.2.2.2.2.2.2.2⟩
def run_runner_into.h : Hint := .s .n (.s .n (.s .n (.s (.s .n (.lp ⟨[.slot 7 (.one (.own 918 (.int .i64))), .slot 8 (.one (.d (.int .i64))), .rm 598, .arr 918 (.int .i64) 0, .kr 9 2, .kr 22 30], [(0, .blk 106 15), (1, .mp (.int .i64) (.sl (.int .i64))), (918, .arr (.int .i64))], 919⟩ ⟨[.slot 7 (.one (.own 918 (.int .i64))), .rm 598, .arr 918 (.int .i64) 0, .kr 8 3, .kr 22 30], [(0, .blk 106 15), (1, .mp (.int .i64) (.sl (.int .i64))), (918, .arr (.int .i64))], 919⟩ false [] (.s .n (.s (.b (.s .n (.cut ⟨[.slot 9 (.one (.d (.int .i64))), .kr 10 1, .kr 27 21], [(0, .blk 106 15), (1, .mp (.int .i64) (.sl (.int .i64))), (918, .arr (.int .i64))], 1181⟩ false [] (.s .n (.c (.s .n (.r [(2, 0)])) .n)) .n))) .n)))) .n)))
theorem run_runner_into.e (t : TplT tab (run_runner_into.S).args) : (run_runner_into.S).fn t = Dfn tt [run_gone.S] (run_runner_into.S) (codeOf Tryd.f70) run_runner_into.h t := by kernel_rfl
theorem run_runner_into.H : Good Tryd.prog (run_runner_into.S) := good_of ttok mixed Tryd.func70 (by kernel_rfl) (by kernel_rfl) (specs_cons run_gone.H specs_nil) (run_runner_into.e)
def run_runner_may.A : Tpl := ⟨[.slot 0 (.one (.ptr 0 0)), .slot 1 (.one (.d (.int .i64))), .slot 2 (.one (.d (.int .i64))), .slot 3 (.one (.d (.int .i64))), .blk 0 106 15, .cell 0 0 (.d .str), .cell 0 1 (.d (.int .i64)), .cell 0 2 (.d (.int .i64)), .cell 0 3 (.d (.int .i64)), .cell 0 4 (.d (.int .i64)), .cell 0 5 (.d (.int .i64)), .cell 0 6 (.d (.int .i64)), .cell 0 7 (.d (.int .i64)), .cell 0 8 (.d (.int .i64)), .cell 0 9 (.d (.int .i64)), .cell 0 10 (.d (.sl (.st 1))), .cell 0 11 (.d (.sl (.int .i64))), .cell 0 12 (.d (.int .i64)), .cell 0 13 (.d (.int .i64)), .cell 0 14 (.mpr 1), .mp 1 (.int .i64) (.sl (.int .i64))], [(0, .blk 106 15), (1, .mp (.int .i64) (.sl (.int .i64)))], 2⟩
def run_runner_may.R : Tpl := ⟨[.slot 8 (.one (.d .bool)), .mp 1 (.int .i64) (.sl (.int .i64)), .cell 0 10 (.d (.sl (.st 1))), .cell 0 11 (.d (.sl (.int .i64))), .cell 0 14 (.mpr 1)], [(0, .blk 106 15), (1, .mp (.int .i64) (.sl (.int .i64)))], 23⟩
def run_runner_may.S : Spec tab := ⟨60, run_runner_may.A, run_runner_may.R, [8], fun (t : TplT tab run_runner_may.A) => run_runner_may t.1 t.2.1 t.2.2.1 t.2.2.2.1 t.2.2.2.2.1 t.2.2.2.2.2.1 t.2.2.2.2.2.2.1 t.2.2.2.2.2.2.2.1 t.2.2.2.2.2.2.2.2.1 t.2.2.2.2.2.2.2.2.2.1 t.2.2.2.2.2.2.2.2.2.2.1 t.2.2.2.2.2.2.2.2.2.2.2.1 t.2.2.2.2.2.2.2.2.2.2.2.2.1 t.2.2.2.2.2.2.2.2.2.2.2.2.2.1 t.2.2.2.2.2.2.2.2.2.2.2.2.2.2.1 t.2.2.2.2.2.2.2.2.2.2.2.2.2.2.2.1 t.2.2.2.2.2.2.2.2.2.2.2.2.2.2.2.2.1 t.2.2.2.2.2.2.2.2.2.2.2.2.2.2.2.2.2⟩
def run_runner_may.h : Hint := .s .n (.s (.s (.r [(2, 0)]) .n) (.s (.s .n (.rg ⟨[.mp 1 (.int .i64) (.sl (.int .i64)), .cell 0 10 (.d (.sl (.st 1))), .cell 0 11 (.d (.sl (.int .i64))), .cell 0 14 (.mpr 1), .kr 9 3, .kr 29 40], [(0, .blk 106 15), (1, .mp (.int .i64) (.sl (.int .i64)))], 1111⟩ true (.b (.s .n (.s .n (.b (.s .n (.c (.s (.r [(4, 0)]) .n) (.cut ⟨[.slot 52 (.one (.d .bool)), .kr 53 16], [(0, .blk 106 15), (1, .mp (.int .i64) (.sl (.int .i64))), (1309, .blk 72 3)], 2269⟩ false [] .n .n))))))))) .n))
theorem run_runner_may.e (t : TplT tab (run_runner_may.S).args) : (run_runner_may.S).fn t = Dfn tt [run_runner_into.S] (run_runner_may.S) (codeOf Tryd.f60) run_runner_may.h t := by kernel_rfl
theorem run_runner_may.H : Good Tryd.prog (run_runner_may.S) := good_of ttok mixed Tryd.func60 (by kernel_rfl) (by kernel_rfl) (specs_cons run_runner_into.H specs_nil) (run_runner_may.e)
def run_runner_second.A : Tpl := ⟨[.slot 0 (.one (.ptr 0 0)), .slot 1 (.dat (.st 2)), .blk 0 106 15, .cell 0 0 (.d .str), .cell 0 1 (.d (.int .i64)), .cell 0 2 (.d (.int .i64)), .cell 0 3 (.d (.int .i64)), .cell 0 4 (.d (.int .i64)), .cell 0 5 (.d (.int .i64)), .cell 0 6 (.d (.int .i64)), .cell 0 7 (.d (.int .i64)), .cell 0 8 (.d (.int .i64)), .cell 0 9 (.d (.int .i64)), .cell 0 10 (.d (.sl (.st 1))), .cell 0 11 (.d (.sl (.int .i64))), .cell 0 12 (.d (.int .i64)), .cell 0 13 (.d (.int .i64)), .cell 0 14 (.mpr 1), .mp 1 (.int .i64) (.sl (.int .i64))], [(0, .blk 106 15), (1, .mp (.int .i64) (.sl (.int .i64)))], 2⟩
def run_runner_second.R : Tpl := ⟨[.slot 54525956 (.dat (.st 2)), .mp 1 (.int .i64) (.sl (.int .i64)), .cell 0 10 (.d (.sl (.st 1))), .cell 0 11 (.d (.sl (.int .i64))), .cell 0 14 (.mpr 1)], [(0, .blk 106 15), (1, .mp (.int .i64) (.sl (.int .i64)))], 21⟩
def run_runner_second.S : Spec tab := ⟨50, run_runner_second.A, run_runner_second.R, [54525956], fun (t : TplT tab run_runner_second.A) => run_runner_second t.1 t.2.1 t.2.2.1 t.2.2.2.1 t.2.2.2.2.1 t.2.2.2.2.2.1 t.2.2.2.2.2.2.1 t.2.2.2.2.2.2.2.1 t.2.2.2.2.2.2.2.2.1 t.2.2.2.2.2.2.2.2.2.1 t.2.2.2.2.2.2.2.2.2.2.1 t.2.2.2.2.2.2.2.2.2.2.2.1 t.2.2.2.2.2.2.2.2.2.2.2.2.1 t.2.2.2.2.2.2.2.2.2.2.2.2.2.1 t.2.2.2.2.2.2.2.2.2.2.2.2.2.2.1 t.2.2.2.2.2.2.2.2.2.2.2.2.2.2.2⟩
def run_runner_second.h : Hint := .s .n (.s (.r [(5, 0)]) (.s .n (.s (.r [(7, 1)]) (.s (.lp ⟨[.slot 8 (.one (.d (.int .i64))), .mp 1 (.int .i64) (.sl (.int .i64)), .cell 0 10 (.d (.sl (.st 1))), .cell 0 11 (.d (.sl (.int .i64))), .cell 0 14 (.mpr 1), .kr 41 26], [(0, .blk 106 15), (1, .mp (.int .i64) (.sl (.int .i64))), (21, .blk 52 3), (85, .blk 52 3)], 2325⟩ ⟨[.slot 8 (.one (.d (.int .i64))), .mp 1 (.int .i64) (.sl (.int .i64)), .cell 0 10 (.d (.sl (.st 1))), .cell 0 11 (.d (.sl (.int .i64))), .cell 0 14 (.mpr 1), .kr 41 26], [(0, .blk 106 15), (1, .mp (.int .i64) (.sl (.int .i64))), (21, .blk 52 3), (85, .blk 52 3)], 2325⟩ false [] (.s (.cut ⟨[.slot 64 (.one (.d .bool)), .mp 1 (.int .i64) (.sl (.int .i64)), .cell 0 10 (.d (.sl (.st 1))), .cell 0 11 (.d (.sl (.int .i64))), .cell 0 14 (.mpr 1), .kr 41 23], [(0, .blk 106 15), (1, .mp (.int .i64) (.sl (.int .i64))), (21, .blk 52 3), (85, .blk 52 3)], 2331⟩ false [] (.r [(18, 2), (21, 3)]) .n) .n)) (.s .n (.cut ⟨[.slot 9 (.one (.ptr 2587 0)), .blk 2587 52 3, .cell 2587 0 (.d (.int .i64)), .cell 2587 1 (.d (.int .i64)), .cell 2587 2 (.d (.int .i64)), .kr 70 10], [(0, .blk 106 15), (1, .mp (.int .i64) (.sl (.int .i64))), (21, .blk 52 3), (85, .blk 52 3), (2587, .blk 52 3)], 2588⟩ false [] (.r [(4, 2)]) (.cut ⟨[.cell 2587 2 (.d (.int .i64)), .kr 10 1, .kr 80 40], [(0, .blk 106 15), (1, .mp (.int .i64) (.sl (.int .i64))), (21, .blk 52 3), (85, .blk 52 3), (2587, .blk 52 3)], 2594⟩ false [] .n .n)))))))
theorem run_runner_second.e (t : TplT tab (run_runner_second.S).args) : (run_runner_second.S).fn t = Dfn tt [run_runner_grade.S, run_gain.S, run_gone.S, run_runner_may.S] (run_runner_second.S) (codeOf Tryd.f50) run_runner_second.h t := by kernel_rfl
theorem run_runner_second.H : Good Tryd.prog (run_runner_second.S) := good_of ttok mixed Tryd.func50 (by kernel_rfl) (by kernel_rfl) (specs_cons run_runner_grade.H (specs_cons run_gain.H (specs_cons run_gone.H (specs_cons run_runner_may.H specs_nil)))) (run_runner_second.e)
def run_runner_states.A : Tpl := ⟨[.slot 0 (.one (.ptr 0 0)), .slot 1 (.one (.d (.int .i64))), .blk 0 106 15, .cell 0 0 (.d .str), .cell 0 1 (.d (.int .i64)), .cell 0 2 (.d (.int .i64)), .cell 0 3 (.d (.int .i64)), .cell 0 4 (.d (.int .i64)), .cell 0 5 (.d (.int .i64)), .cell 0 6 (.d (.int .i64)), .cell 0 7 (.d (.int .i64)), .cell 0 8 (.d (.int .i64)), .cell 0 9 (.d (.int .i64)), .cell 0 10 (.d (.sl (.st 1))), .cell 0 11 (.d (.sl (.int .i64))), .cell 0 12 (.d (.int .i64)), .cell 0 13 (.d (.int .i64)), .cell 0 14 (.mpr 1), .mp 1 (.int .i64) (.sl (.int .i64))], [(0, .blk 106 15), (1, .mp (.int .i64) (.sl (.int .i64)))], 2⟩
def run_runner_states.R : Tpl := ⟨[.slot 4 (.one (.own 21 (.st 2))), .slot 5 (.one (.d .bool)), .mp 1 (.int .i64) (.sl (.int .i64)), .cell 0 10 (.d (.sl (.st 1))), .cell 0 11 (.d (.sl (.int .i64))), .cell 0 14 (.mpr 1), .arr 21 (.st 2) 0], [(0, .blk 106 15), (1, .mp (.int .i64) (.sl (.int .i64))), (21, .arr (.st 2))], 22⟩
def run_runner_states.S : Spec tab := ⟨40, run_runner_states.A, run_runner_states.R, [4, 5], fun (t : TplT tab run_runner_states.A) => run_runner_states t.1 t.2.1 t.2.2.1 t.2.2.2.1 t.2.2.2.2.1 t.2.2.2.2.2.1 t.2.2.2.2.2.2.1 t.2.2.2.2.2.2.2.1 t.2.2.2.2.2.2.2.2.1 t.2.2.2.2.2.2.2.2.2.1 t.2.2.2.2.2.2.2.2.2.2.1 t.2.2.2.2.2.2.2.2.2.2.2.1 t.2.2.2.2.2.2.2.2.2.2.2.2.1 t.2.2.2.2.2.2.2.2.2.2.2.2.2.1 t.2.2.2.2.2.2.2.2.2.2.2.2.2.2.1 t.2.2.2.2.2.2.2.2.2.2.2.2.2.2.2⟩
def run_runner_states.h : Hint := .s .n (.s .n (.s (.s .n (.lp ⟨[.slot 6 (.one (.own 469 (.st 2))), .slot 11 (.one (.d (.int .i64))), .mp 1 (.int .i64) (.sl (.int .i64)), .rm 277, .cell 0 10 (.d (.sl (.st 1))), .cell 0 11 (.d (.sl (.int .i64))), .cell 0 14 (.mpr 1), .arr 469 (.st 2) 2, .kr 7 1, .kr 12 23, .kr 43 9], [(0, .blk 106 15), (1, .mp (.int .i64) (.sl (.int .i64))), (469, .arr (.st 2))], 470⟩ ⟨[.mp 1 (.int .i64) (.sl (.int .i64)), .rm 277, .cell 0 10 (.d (.sl (.st 1))), .cell 0 11 (.d (.sl (.int .i64))), .cell 0 14 (.mpr 1), .kr 6 2, .kr 11 24, .kr 43 9], [(0, .blk 106 15), (1, .mp (.int .i64) (.sl (.int .i64)))], 469⟩ true [] (.s .n (.s .n (.s (.b (.s .n (.s (.cut ⟨[.slot 34 (.one (.d .bool)), .kr 18 16], [(0, .blk 106 15), (1, .mp (.int .i64) (.sl (.int .i64))), (469, .arr (.st 2))], 929⟩ false [] .n .n) (.r [(5, 0)])))) .n))))) .n))
theorem run_runner_states.e (t : TplT tab (run_runner_states.S).args) : (run_runner_states.S).fn t = Dfn tt [run_runner_second.S] (run_runner_states.S) (codeOf Tryd.f40) run_runner_states.h t := by kernel_rfl
theorem run_runner_states.H : Good Tryd.prog (run_runner_states.S) := good_of ttok mixed Tryd.func40 (by kernel_rfl) (by kernel_rfl) (specs_cons run_runner_second.H specs_nil) (run_runner_states.e)
def run_states.A : Tpl := ⟨[.slot 0 (.dat (.st 0)), .slot 1 (.one (.d (.sl (.st 1)))), .slot 2 (.one (.d (.int .i64))), .slot 3 (.one (.d (.int .i64))), .slot 4 (.one (.d (.int .i64)))], [], 0⟩
def run_states.R : Tpl := ⟨[.slot 10 (.one (.own 5 (.st 2))), .slot 11 (.one (.d (.int .i64))), .arr 5 (.st 2) 0], [(5, .arr (.st 2))], 6⟩
def run_states.S : Spec tab := ⟨30, run_states.A, run_states.R, [10, 11], fun (t : TplT tab run_states.A) => run_states t.1 t.2.1 t.2.2.1 t.2.2.2.1 t.2.2.2.2⟩
def run_states.h : Hint := .s .n (.s (.r [(4, 0), (6, 1)]) .n)
theorem run_states.e (t : TplT tab (run_states.S).args) : (run_states.S).fn t = Dfn tt [run_newRunner.S, run_runner_states.S] (run_states.S) (codeOf Tryd.f30) run_states.h t := by kernel_rfl
theorem run_states.H : Good Tryd.prog (run_states.S) := good_of ttok mixed Tryd.func30 (by kernel_rfl) (by kernel_rfl) (specs_cons run_newRunner.H (specs_cons run_runner_states.H specs_nil)) (run_states.e)
def run_Saving.A : Tpl := ⟨[.slot 0 (.dat (.st 0)), .slot 1 (.one (.d (.sl (.st 1)))), .slot 2 (.one (.d (.int .i64))), .slot 3 (.one (.d (.int .i64))), .slot 4 (.one (.d (.int .i64)))], [], 0⟩
def run_Saving.R : Tpl := ⟨[.slot 10 (.one (.d (.int .i64))), .slot 11 (.one (.d (.int .i64)))], [], 5⟩
def run_Saving.S : Spec tab := ⟨20, run_Saving.A, run_Saving.R, [10, 11], fun (t : TplT tab run_Saving.A) => run_Saving t.1 t.2.1 t.2.2.1 t.2.2.2.1 t.2.2.2.2⟩
def run_Saving.h : Hint := .s .n (.s (.s (.r [(5, 0)]) .n) (.s (.s (.r [(1, 1)]) .n) (.s (.s .n (.lp ⟨[.slot 29 (.one (.d (.int .i64))), .kr 13 4, .kr 30 26, .kr 57 5], [(5, .blk 23 10)], 1029⟩ ⟨[.kr 13 4, .kr 29 27, .kr 57 5], [(5, .blk 23 10)], 1029⟩ true [] (.s .n (.s .n (.s (.b (.s .n (.s .n (.s (.s (.r [(8, 2)]) (.cut ⟨[.slot 55 (.one (.d .bool)), .kr 47 8], [(5, .blk 23 10), (1998, .arr (.st 2))], 2377⟩ false [] .n .n)) .n)))) .n))))) .n)))
theorem run_Saving.e (t : TplT tab (run_Saving.S).args) : (run_Saving.S).fn t = Dfn tt [run_check.S, run_within.S, run_states.S] (run_Saving.S) (codeOf Tryd.f20) run_Saving.h t := by kernel_rfl
theorem run_Saving.H : Good Tryd.prog (run_Saving.S) := good_of ttok mixed Tryd.func20 (by kernel_rfl) (by kernel_rfl) (specs_cons run_check.H (specs_cons run_within.H (specs_cons run_states.H specs_nil))) (run_Saving.e)
def run_Capped.A : Tpl := ⟨[.slot 0 (.dat (.st 0)), .slot 1 (.one (.d (.sl (.st 1)))), .slot 2 (.one (.d (.int .i64))), .slot 3 (.one (.d (.int .i64))), .slot 4 (.one (.d (.int .i64)))], [], 0⟩
def run_Capped.R : Tpl := ⟨[.slot 10 (.one (.own 5 (.st 2))), .slot 11 (.one (.d (.int .i64))), .arr 5 (.st 2) 0], [(5, .arr (.st 2))], 6⟩
def run_Capped.S : Spec tab := ⟨21, run_Capped.A, run_Capped.R, [10, 11], fun (t : TplT tab run_Capped.A) => run_Capped t.1 t.2.1 t.2.2.1 t.2.2.2.1 t.2.2.2.2⟩
def run_Capped.h : Hint := .s .n (.s (.s (.r [(5, 0)]) .n) (.s (.s (.r [(1, 1)]) .n) (.s (.r [(8, 2)]) .n)))
theorem run_Capped.e (t : TplT tab (run_Capped.S).args) : (run_Capped.S).fn t = Dfn tt [run_check.S, run_within.S, run_states.S] (run_Capped.S) (codeOf Tryd.f21) run_Capped.h t := by kernel_rfl
theorem run_Capped.H : Good Tryd.prog (run_Capped.S) := good_of ttok mixed Tryd.func21 (by kernel_rfl) (by kernel_rfl) (specs_cons run_check.H (specs_cons run_within.H (specs_cons run_states.H specs_nil))) (run_Capped.e)
def fishkeep1_RunSaved.A : Tpl := ⟨[.slot 0 (.dat (.st 0)), .slot 1 (.one (.d (.sl (.st 1)))), .slot 2 (.one (.d (.int .i64))), .slot 3 (.one (.d (.int .i64))), .slot 4 (.one (.d (.int .i64)))], [], 0⟩
def fishkeep1_RunSaved.R : Tpl := ⟨[.slot 10 (.one (.d .bool))], [], 5⟩
def fishkeep1_RunSaved.S : Spec tab := ⟨8, fishkeep1_RunSaved.A, fishkeep1_RunSaved.R, [10], fun (t : TplT tab fishkeep1_RunSaved.A) => fishkeep1_RunSaved t.1 t.2.1 t.2.2.1 t.2.2.2.1 t.2.2.2.2⟩
def fishkeep1_RunSaved.h : Hint := .s .n (.s (.s (.r [(0, 0)]) .n) (.s (.r [(5, 1)]) (.s .n (.s (.r [(5, 2)]) (.s (.cut ⟨[.slot 48 (.one (.d .bool)), .kr 40 8], [(5, .blk 23 10), (1418, .arr (.st 2))], 1797⟩ false [] .n .n) (.s (.s .n (.rg ⟨[.kr 15 1, .kr 53 6], [(5, .blk 23 10), (1418, .arr (.st 2))], 1991⟩ true .n)) (.s .n (.s (.r [(6, 2)]) (.cut ⟨[.slot 10 (.one (.d .bool)), .kr 72 13], [(5, .blk 23 10), (1418, .arr (.st 2)), (2510, .arr (.st 2))], 2889⟩ false [] .n .n)))))))))
theorem fishkeep1_RunSaved.e (t : TplT tab (fishkeep1_RunSaved.S).args) : (fishkeep1_RunSaved.S).fn t = Dfn tt [fishkeep1_awakeRun.S, run_Saving.S, run_Capped.S] (fishkeep1_RunSaved.S) (codeOf Tryd.f8) fishkeep1_RunSaved.h t := by kernel_rfl
theorem fishkeep1_RunSaved.H : Good Tryd.prog (fishkeep1_RunSaved.S) := good_of ttok mixed Tryd.func8 (by kernel_rfl) (by kernel_rfl) (specs_cons fishkeep1_awakeRun.H (specs_cons run_Saving.H (specs_cons run_Capped.H specs_nil))) (fishkeep1_RunSaved.e)
def run_Go.A : Tpl := ⟨[.slot 0 (.dat (.st 0)), .slot 1 (.one (.d (.sl (.st 1)))), .slot 2 (.one (.d (.int .i64))), .slot 3 (.one (.d (.int .i64)))], [], 0⟩
def run_Go.R : Tpl := ⟨[.slot 8 (.one (.own 4 (.st 2))), .slot 9 (.one (.d (.int .i64))), .arr 4 (.st 2) 0], [(4, .arr (.st 2))], 5⟩
def run_Go.S : Spec tab := ⟨18, run_Go.A, run_Go.R, [8, 9], fun (t : TplT tab run_Go.A) => run_Go t.1 t.2.1 t.2.2.1 t.2.2.2⟩
def run_Go.h : Hint := .s .n (.s (.s (.r [(5, 0)]) .n) (.s (.r [(6, 1)]) .n))
theorem run_Go.e (t : TplT tab (run_Go.S).args) : (run_Go.S).fn t = Dfn tt [run_check.S, run_states.S] (run_Go.S) (codeOf Tryd.f18) run_Go.h t := by kernel_rfl
theorem run_Go.H : Good Tryd.prog (run_Go.S) := good_of ttok mixed Tryd.func18 (by kernel_rfl) (by kernel_rfl) (specs_cons run_check.H (specs_cons run_states.H specs_nil)) (run_Go.e)
def run_Gain.A : Tpl := ⟨[.slot 0 (.dat (.st 0)), .slot 1 (.one (.d (.int .i64))), .slot 2 (.one (.d (.int .i64)))], [], 0⟩
def run_Gain.R : Tpl := ⟨[.slot 6 (.one (.d (.int .i64))), .slot 7 (.one (.d (.int .i64)))], [], 3⟩
def run_Gain.S : Spec tab := ⟨31, run_Gain.A, run_Gain.R, [6, 7], fun (t : TplT tab run_Gain.A) => run_Gain t.1 t.2.1 t.2.2⟩
def run_Gain.h : Hint := .s .n (.s (.s (.r [(1, 0)]) .n) (.s (.cut ⟨[.slot 21 (.one (.d .bool)), .kr 14 7], [(3, .blk 23 10)], 515⟩ false [] (.r [(1, 1), (5, 1)]) .n) (.s (.r [(3, 2)]) .n)))
theorem run_Gain.e (t : TplT tab (run_Gain.S).args) : (run_Gain.S).fn t = Dfn tt [run_Check.S, run_within.S, run_gain.S] (run_Gain.S) (codeOf Tryd.f31) run_Gain.h t := by kernel_rfl
theorem run_Gain.H : Good Tryd.prog (run_Gain.S) := good_of ttok mixed Tryd.func31 (by kernel_rfl) (by kernel_rfl) (specs_cons run_Check.H (specs_cons run_within.H (specs_cons run_gain.H specs_nil))) (run_Gain.e)
def fishkeep1_secondKeeps.A : Tpl := ⟨[.slot 0 (.dat (.st 0)), .slot 1 (.one (.d (.sl (.st 1)))), .slot 2 (.dat (.st 2)), .slot 3 (.dat (.st 2)), .slot 4 (.one (.d (.int .i64))), .slot 5 (.one (.d .bool))], [], 0⟩
def fishkeep1_secondKeeps.R : Tpl := ⟨[.slot 12 (.one (.d .bool))], [], 6⟩
def fishkeep1_secondKeeps.S : Spec tab := ⟨19, fishkeep1_secondKeeps.A, fishkeep1_secondKeeps.R, [12], fun (t : TplT tab fishkeep1_secondKeeps.A) => fishkeep1_secondKeeps t.1 t.2.1 t.2.2.1 t.2.2.2.1 t.2.2.2.2.1 t.2.2.2.2.2⟩
def fishkeep1_secondKeeps.h : Hint := .s .n (.s .n (.s (.cut ⟨[.slot 62 (.one (.d .bool)), .kr 31 31], [(6, .blk 23 10), (70, .blk 52 3), (134, .blk 52 3)], 966⟩ false [] .n .n) (.s .n (.s (.s .n (.rg ⟨[.slot 14 (.one (.d (.int .i64))), .slot 15 (.one (.d (.int .i64))), .kr 17 1, .kr 67 35], [(6, .blk 23 10), (70, .blk 52 3), (134, .blk 52 3)], 1288⟩ true (.b (.s .n (.cut ⟨[.slot 14 (.one (.d (.int .i64))), .kr 69 6], [(6, .blk 23 10), (70, .blk 52 3), (134, .blk 52 3), (1420, .blk 72 3)], 1548⟩ false [] .n (.s (.cut ⟨[.slot 97 (.one (.d .bool)), .kr 75 22], [(6, .blk 23 10), (70, .blk 52 3), (134, .blk 52 3), (1420, .blk 72 3)], 1550⟩ false [] .n .n) .n)))))) (.s (.r [(4, 0)]) (.s .n (.cut ⟨[.slot 12 (.one (.d .bool)), .kr 119 26], [(6, .blk 23 10), (70, .blk 52 3), (134, .blk 52 3)], 2508⟩ false [] .n .n)))))))
theorem fishkeep1_secondKeeps.e (t : TplT tab (fishkeep1_secondKeeps.S).args) : (fishkeep1_secondKeeps.S).fn t = Dfn tt [run_Gain.S] (fishkeep1_secondKeeps.S) (codeOf Tryd.f19) fishkeep1_secondKeeps.h t := by kernel_rfl
theorem fishkeep1_secondKeeps.H : Good Tryd.prog (fishkeep1_secondKeeps.S) := good_of ttok mixed Tryd.func19 (by kernel_rfl) (by kernel_rfl) (specs_cons run_Gain.H specs_nil) (fishkeep1_secondKeeps.e)
def fishkeep1_RunKeeps.A : Tpl := ⟨[.slot 0 (.dat (.st 0)), .slot 1 (.one (.d (.sl (.st 1)))), .slot 2 (.one (.d (.int .i64))), .slot 3 (.one (.d (.int .i64)))], [], 0⟩
def fishkeep1_RunKeeps.R : Tpl := ⟨[.slot 8 (.one (.d .bool))], [], 4⟩
def fishkeep1_RunKeeps.S : Spec tab := ⟨7, fishkeep1_RunKeeps.A, fishkeep1_RunKeeps.R, [8], fun (t : TplT tab fishkeep1_RunKeeps.A) => fishkeep1_RunKeeps t.1 t.2.1 t.2.2.1 t.2.2.2⟩
def fishkeep1_RunKeeps.h : Hint := .s .n (.s (.s (.r [(0, 0)]) .n) (.s (.r [(4, 1)]) (.s .n (.s .n (.s (.cut ⟨[.slot 79 (.one (.d .bool)), .kr 31 48], [(4, .blk 23 10), (520, .arr (.st 2))], 1284⟩ false [] .n .n) (.s (.s .n (.lp ⟨[.slot 12 (.one (.d (.int .i64))), .kr 80 22], [(4, .blk 23 10), (520, .arr (.st 2))], 1350⟩ ⟨[.kr 12 1, .kr 80 22], [(4, .blk 23 10), (520, .arr (.st 2))], 1350⟩ true [] (.s .n (.s (.b (.s (.r [(15, 2)]) .n)) .n)))) .n))))))
theorem fishkeep1_RunKeeps.e (t : TplT tab (fishkeep1_RunKeeps.S).args) : (fishkeep1_RunKeeps.S).fn t = Dfn tt [fishkeep1_awakeRun.S, run_Go.S, fishkeep1_secondKeeps.S] (fishkeep1_RunKeeps.S) (codeOf Tryd.f7) fishkeep1_RunKeeps.h t := by kernel_rfl
theorem fishkeep1_RunKeeps.H : Good Tryd.prog (fishkeep1_RunKeeps.S) := good_of ttok mixed Tryd.func7 (by kernel_rfl) (by kernel_rfl) (specs_cons fishkeep1_awakeRun.H (specs_cons run_Go.H (specs_cons fishkeep1_secondKeeps.H specs_nil))) (fishkeep1_RunKeeps.e)
end Hd
