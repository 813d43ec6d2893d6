/- Each call returns what its plain function gives. Printed by a tool. -/
import Derived.Test.YthkbjhdcjlghaaaZT
set_option linter.unusedVariables false
set_option linter.unusedSimpArgs false
set_option maxRecDepth 100000
set_option maxHeartbeats 4000000
namespace Hd
open Go Hk Go.Proofs
def plan_within.A : Tpl := ⟨[.slot 0 (.one (.d (.int .i64))), .slot 1 (.one (.d (.int .i64))), .slot 2 (.one (.d (.int .i64)))], [], 0⟩
def plan_within.R : Tpl := ⟨[.slot 6 (.one (.d .bool))], [], 3⟩
def plan_within.S : Spec tab := ⟨99, plan_within.A, plan_within.R, [6], fun (t : TplT tab plan_within.A) => plan_within t.1 t.2.1 t.2.2⟩
def plan_within.h : Hint := .s .n (.cut ⟨[.slot 6 (.one (.d .bool)), .kr 7 8], [], 67⟩ false [] .n .n)
theorem plan_within.e (t : TplT tab (plan_within.S).args) : (plan_within.S).fn t = Dfn tt [] (plan_within.S) (codeOf Try.f99) plan_within.h t := by kernel_rfl
theorem plan_within.H : Good Try.prog (plan_within.S) := good_of ttok mixed Try.func99 (by kernel_rfl) (by kernel_rfl) specs_nil (plan_within.e)
def plan_CheckPeriodic.A : Tpl := ⟨[.slot 0 (.dat (.st 1))], [], 0⟩
def plan_CheckPeriodic.R : Tpl := ⟨[.slot 2 (.one (.d (.int .i64)))], [], 1⟩
def plan_CheckPeriodic.S : Spec tab := ⟨76, plan_CheckPeriodic.A, plan_CheckPeriodic.R, [2], fun (t : TplT tab plan_CheckPeriodic.A) => plan_CheckPeriodic t⟩
def plan_CheckPeriodic.h : Hint := .s .n (.s (.b (.cut ⟨[.slot 5 (.one (.d .bool)), .kr 6 10], [(1, .blk 73 3)], 129⟩ false [] (.r [(2, 0), (7, 0)]) .n)) (.s (.s .n (.rg ⟨[.kr 4 1, .kr 26 50], [(1, .blk 73 3)], 707⟩ true (.b (.s .n (.b (.cut ⟨[.slot 28 (.one (.d .bool)), .kr 29 16], [(1, .blk 73 3), (837, .blk 78 5)], 965⟩ false [] (.r [(5, 0), (13, 0)]) (.c .n (.s .n (.c .n (.cut ⟨[.slot 51 (.one (.d .bool)), .kr 52 24], [(1, .blk 73 3), (837, .blk 78 5)], 1351⟩ false [] (.r [(2, 0), (15, 0), (21, 0)]) .n)))))))))) .n))
theorem plan_CheckPeriodic.e (t : TplT tab (plan_CheckPeriodic.S).args) : (plan_CheckPeriodic.S).fn t = Dfn tt [plan_within.S] (plan_CheckPeriodic.S) (codeOf Try.f76) plan_CheckPeriodic.h t := by kernel_rfl
theorem plan_CheckPeriodic.H : Good Try.prog (plan_CheckPeriodic.S) := good_of ttok mixed Try.func76 (by kernel_rfl) (by kernel_rfl) (specs_cons plan_within.H specs_nil) (plan_CheckPeriodic.e)
def plan_checkTimes.A : Tpl := ⟨[.slot 0 (.dat (.st 1)), .slot 1 (.one (.d (.sl (.int .i64))))], [], 0⟩
def plan_checkTimes.R : Tpl := ⟨[.slot 4 (.one (.d (.int .i64)))], [], 2⟩
def plan_checkTimes.S : Spec tab := ⟨98, plan_checkTimes.A, plan_checkTimes.R, [4], fun (t : TplT tab plan_checkTimes.A) => plan_checkTimes t.1 t.2⟩
def plan_checkTimes.h : Hint := .s .n (.s (.s (.r [(1, 0)]) .n) (.s .n (.s (.s .n (.rg ⟨[.kr 7 1, .kr 22 8], [(2, .blk 73 3)], 962⟩ true (.b (.s .n (.s (.r [(4, 1)]) .n))))) .n)))
theorem plan_checkTimes.e (t : TplT tab (plan_checkTimes.S).args) : (plan_checkTimes.S).fn t = Dfn tt [plan_CheckPeriodic.S, plan_within.S] (plan_checkTimes.S) (codeOf Try.f98) plan_checkTimes.h t := by kernel_rfl
theorem plan_checkTimes.H : Good Try.prog (plan_checkTimes.S) := good_of ttok mixed Try.func98 (by kernel_rfl) (by kernel_rfl) (specs_cons plan_CheckPeriodic.H (specs_cons plan_within.H specs_nil)) (plan_checkTimes.e)
def plan_gap.A : Tpl := ⟨[.slot 0 (.dat (.st 1)), .slot 1 (.dat (.st 0)), .slot 2 (.one (.d (.sl (.int .i64))))], [], 0⟩
def plan_gap.R : Tpl := ⟨[.slot 6 (.one (.d (.int .i64)))], [], 3⟩
def plan_gap.S : Spec tab := ⟨100, plan_gap.A, plan_gap.R, [6], fun (t : TplT tab plan_gap.A) => plan_gap t.1 t.2.1 t.2.2⟩
def plan_gap.h : Hint := .s .n (.s .n (.cut ⟨[.slot 7 (.one (.d (.int .i64))), .kr 25 6], [(3, .blk 73 3), (67, .blk 78 5)], 1347⟩ false [] .n .n))
theorem plan_gap.e (t : TplT tab (plan_gap.S).args) : (plan_gap.S).fn t = Dfn tt [] (plan_gap.S) (codeOf Try.f100) plan_gap.h t := by kernel_rfl
theorem plan_gap.H : Good Try.prog (plan_gap.S) := good_of ttok mixed Try.func100 (by kernel_rfl) (by kernel_rfl) specs_nil (plan_gap.e)
def plan_Gap.A : Tpl := ⟨[.slot 0 (.dat (.st 1)), .slot 1 (.one (.d (.int .i64))), .slot 2 (.one (.d (.sl (.int .i64))))], [], 0⟩
def plan_Gap.R : Tpl := ⟨[.slot 6 (.one (.d (.int .i64))), .slot 7 (.one (.d (.int .i64)))], [], 3⟩
def plan_Gap.S : Spec tab := ⟨75, plan_Gap.A, plan_Gap.R, [6, 7], fun (t : TplT tab plan_Gap.A) => plan_Gap t.1 t.2.1 t.2.2⟩
def plan_Gap.h : Hint := .s .n (.s (.s (.r [(2, 0)]) .n) (.s (.s (.r [(5, 1)]) .n) (.s (.r [(7, 2)]) .n)))
theorem plan_Gap.e (t : TplT tab (plan_Gap.S).args) : (plan_Gap.S).fn t = Dfn tt [plan_checkTimes.S, plan_within.S, plan_gap.S] (plan_Gap.S) (codeOf Try.f75) plan_Gap.h t := by kernel_rfl
theorem plan_Gap.H : Good Try.prog (plan_Gap.S) := good_of ttok mixed Try.func75 (by kernel_rfl) (by kernel_rfl) (specs_cons plan_checkTimes.H (specs_cons plan_within.H (specs_cons plan_gap.H specs_nil))) (plan_Gap.e)
def fishkeep2_awakePlan.A : Tpl := ⟨[], [], 0⟩
def fishkeep2_awakePlan.R : Tpl := ⟨[.slot 0 (.one (.d .bool))], [], 0⟩
def fishkeep2_awakePlan.S : Spec tab := ⟨29, fishkeep2_awakePlan.A, fishkeep2_awakePlan.R, [0], fun _ => fishkeep2_awakePlan⟩
def fishkeep2_awakePlan.h : Hint := .s .n (.s (.r [(1, 0)]) .n)
theorem fishkeep2_awakePlan.e (t : TplT tab (fishkeep2_awakePlan.S).args) : (fishkeep2_awakePlan.S).fn t = Dfn tt [plan_Gap.S] (fishkeep2_awakePlan.S) (codeOf Try.f29) fishkeep2_awakePlan.h t := by kernel_rfl
theorem fishkeep2_awakePlan.H : Good Try.prog (fishkeep2_awakePlan.S) := good_of ttok mixed Try.func29 (by kernel_rfl) (by kernel_rfl) (specs_cons plan_Gap.H specs_nil) (fishkeep2_awakePlan.e)
def math_bits_Mul64.A : Tpl := ⟨[.slot 0 (.one (.d (.int .u64))), .slot 1 (.one (.d (.int .u64)))], [], 0⟩
def math_bits_Mul64.R : Tpl := ⟨[.slot 4 (.one (.d (.int .u64))), .slot 5 (.one (.d (.int .u64)))], [], 2⟩
def math_bits_Mul64.S : Spec tab := ⟨128, math_bits_Mul64.A, math_bits_Mul64.R, [4, 5], fun (t : TplT tab math_bits_Mul64.A) => math_bits_Mul64 t.1 t.2⟩
def math_bits_Mul64.h : Hint := .n
theorem math_bits_Mul64.e (t : TplT tab (math_bits_Mul64.S).args) : (math_bits_Mul64.S).fn t = Dfn tt [] (math_bits_Mul64.S) (codeOf Try.f128) math_bits_Mul64.h t := by kernel_rfl
theorem math_bits_Mul64.H : Good Try.prog (math_bits_Mul64.S) := good_of ttok mixed Try.func128 (by kernel_rfl) (by kernel_rfl) specs_nil (math_bits_Mul64.e)
def math_bits_Mul.A : Tpl := ⟨[.slot 0 (.one (.d (.int .u64))), .slot 1 (.one (.d (.int .u64)))], [], 0⟩
def math_bits_Mul.R : Tpl := ⟨[.slot 4 (.one (.d (.int .u64))), .slot 5 (.one (.d (.int .u64)))], [], 2⟩
def math_bits_Mul.S : Spec tab := ⟨97, math_bits_Mul.A, math_bits_Mul.R, [4, 5], fun (t : TplT tab math_bits_Mul.A) => math_bits_Mul t.1 t.2⟩
def math_bits_Mul.h : Hint := .s .n (.s .n (.s (.r [(2, 0)]) .n))
theorem math_bits_Mul.e (t : TplT tab (math_bits_Mul.S).args) : (math_bits_Mul.S).fn t = Dfn tt [math_bits_Mul64.S] (math_bits_Mul.S) (codeOf Try.f97) math_bits_Mul.h t := by kernel_rfl
theorem math_bits_Mul.H : Good Try.prog (math_bits_Mul.S) := good_of ttok mixed Try.func97 (by kernel_rfl) (by kernel_rfl) (specs_cons math_bits_Mul64.H specs_nil) (math_bits_Mul.e)
def slices_Repeat_bool_bool.A : Tpl := ⟨[.slot 0 (.one (.d (.sl .bool))), .slot 1 (.one (.d (.int .i64)))], [], 0⟩
def slices_Repeat_bool_bool.R : Tpl := ⟨[.slot 4 (.one (.own 2 .bool)), .arr 2 .bool 1], [(2, .arr .bool)], 3⟩
def slices_Repeat_bool_bool.S : Spec tab := ⟨129, slices_Repeat_bool_bool.A, slices_Repeat_bool_bool.R, [4], fun (t : TplT tab slices_Repeat_bool_bool.A) => slices_Repeat_bool_bool t.1 t.2⟩
def slices_Repeat_bool_bool.h : Hint := .s .n (.s .n (.s (.r [(5, 0)]) (.s (.cut ⟨[.slot 26 (.one (.d .bool)), .kr 21 5], [], 898⟩ false [] .n .n) (.s .n (.s .n (.s (.lp ⟨[.slot 8 (.one (.d (.int .i64))), .arr 1028 .bool 1, .kr 34 13], [(1028, .arr .bool)], 1412⟩ ⟨[.arr 1028 .bool 1, .kr 8 1, .kr 34 13], [(1028, .arr .bool)], 1412⟩ false [] (.s .n (.b (.r [(3, 0), (6, 0)])))) .n))))))
theorem slices_Repeat_bool_bool.e (t : TplT tab (slices_Repeat_bool_bool.S).args) : (slices_Repeat_bool_bool.S).fn t = Dfn tt [math_bits_Mul.S] (slices_Repeat_bool_bool.S) (codeOf Try.f129) slices_Repeat_bool_bool.h t := by kernel_rfl
theorem slices_Repeat_bool_bool.H : Good Try.prog (slices_Repeat_bool_bool.S) := good_of ttok mixed Try.func129 (by kernel_rfl) (by kernel_rfl) (specs_cons math_bits_Mul.H specs_nil) (slices_Repeat_bool_bool.e)
def plan_newSearch.A : Tpl := ⟨[.slot 0 (.dat (.st 1))], [], 0⟩
def plan_newSearch.R : Tpl := ⟨[.slot 2 (.one (.ptr 1 0)), .blk 1 178 7, .cell 1 0 (.d (.int .i64)), .cell 1 1 (.d (.int .i64)), .cell 1 2 (.d (.sl (.st 0))), .cell 1 3 (.nilf), .cell 1 4 (.fn0 130), .cell 1 5 (.own 2 (.int .i64)), .cell 1 6 (.own 3 .bool), .arr 2 (.int .i64) 1, .arr 3 .bool 1], [(1, .blk 178 7), (2, .arr (.int .i64)), (3, .arr .bool)], 4⟩
def plan_newSearch.S : Spec tab := ⟨101, plan_newSearch.A, plan_newSearch.R, [2], fun (t : TplT tab plan_newSearch.A) => plan_newSearch t⟩
def plan_newSearch.h : Hint := .s .n (.cut ⟨[.slot 2 (.one (.ptr 129 0)), .blk 129 178 7, .cell 129 0 (.d (.int .i64)), .cell 129 1 (.d (.int .i64)), .cell 129 2 (.d (.sl (.st 0))), .cell 129 3 (.nilf), .cell 129 4 (.fn0 130), .cell 129 5 (.own 130 (.int .i64)), .cell 129 6 (.own 131 .bool), .arr 130 (.int .i64) 1, .arr 131 .bool 1, .kr 3 12], [(1, .blk 73 3), (129, .blk 178 7), (130, .arr (.int .i64)), (131, .arr .bool)], 132⟩ false [] (.r [(9, 0)]) .n)
theorem plan_newSearch.e (t : TplT tab (plan_newSearch.S).args) : (plan_newSearch.S).fn t = Dfn tt [slices_Repeat_bool_bool.S] (plan_newSearch.S) (codeOf Try.f101) plan_newSearch.h t := by kernel_rfl
theorem plan_newSearch.H : Good Try.prog (plan_newSearch.S) := good_of ttok mixed Try.func101 (by kernel_rfl) (by kernel_rfl) (specs_cons slices_Repeat_bool_bool.H specs_nil) (plan_newSearch.e)
def plan_floor.A : Tpl := ⟨[.slot 0 (.one (.d (.int .i64))), .slot 1 (.one (.d (.int .i64)))], [], 0⟩
def plan_floor.R : Tpl := ⟨[.slot 4 (.one (.d (.int .i64)))], [], 2⟩
def plan_floor.S : Spec tab := ⟨145, plan_floor.A, plan_floor.R, [4], fun (t : TplT tab plan_floor.A) => plan_floor t.1 t.2⟩
def plan_floor.h : Hint := .s .n (.s .n (.cut ⟨[.slot 5 (.one (.d (.int .i64))), .kr 9 6], [], 322⟩ false [] .n .n))
theorem plan_floor.e (t : TplT tab (plan_floor.S).args) : (plan_floor.S).fn t = Dfn tt [] (plan_floor.S) (codeOf Try.f145) plan_floor.h t := by kernel_rfl
theorem plan_floor.H : Good Try.prog (plan_floor.S) := good_of ttok mixed Try.func145 (by kernel_rfl) (by kernel_rfl) specs_nil (plan_floor.e)
def plan_search_start_v2.A : Tpl := ⟨[.slot 0 (.one (.ptr 0 0)), .blk 0 178 7, .cell 0 0 (.d (.int .i64)), .cell 0 1 (.d (.int .i64)), .cell 0 2 (.d (.sl (.st 0))), .cell 0 3 (.nilf), .cell 0 4 (.fn0 130), .cell 0 5 (.own 1 (.int .i64)), .arr 1 (.int .i64) 0, .cell 0 6 (.own 2 .bool), .arr 2 .bool 0], [(0, .blk 178 7), (1, .arr (.int .i64)), (2, .arr .bool)], 3⟩
def plan_search_start_v2.R : Tpl := ⟨[.slot 2 (.one (.pa 14 (.int .i64))), .cell 0 2 (.d (.sl (.st 0))), .cell 0 3 (.nilf), .cell 0 4 (.fn0 130), .arr 14 (.int .i64) 1], [(0, .blk 178 7), (1, .arr (.int .i64)), (2, .arr .bool), (14, .arr (.int .i64))], 15⟩
def plan_search_start_v2.S : Spec tab := ⟨102, plan_search_start_v2.A, plan_search_start_v2.R, [2], fun (t : TplT tab plan_search_start_v2.A) => plan_search_start_v2 t.1 t.2.1 t.2.2.1 t.2.2.2.1 t.2.2.2.2⟩
def plan_search_start_v2.h : Hint := .s .n (.s .n (.s (.s .n (.rg ⟨[.arr 142 (.int .i64) 1, .kr 4 2, .kr 15 30], [(0, .blk 178 7), (1, .arr (.int .i64)), (2, .arr .bool), (142, .arr (.int .i64))], 654⟩ false (.b (.s .n (.s (.s .n (.rg ⟨[.arr 142 (.int .i64) 1, .kr 5 1, .kr 23 16], [(0, .blk 178 7), (1, .arr (.int .i64)), (2, .arr .bool), (142, .arr (.int .i64))], 1169⟩ false .n)) .n))))) .n))
theorem plan_search_start_v2.e (t : TplT tab (plan_search_start_v2.S).args) : (plan_search_start_v2.S).fn t = Dfn tt [] (plan_search_start_v2.S) (codeOf Try.f102) plan_search_start_v2.h t := by kernel_rfl
theorem plan_search_start_v2.H : Good Try.prog (plan_search_start_v2.S) := good_of ttok mixed Try.func102 (by kernel_rfl) (by kernel_rfl) specs_nil (plan_search_start_v2.e)
def plan_solve_1_v3.A : Tpl := ⟨[.slot 0 (.one (.d (.ap (.int .i64)))), .slot 1 (.one (.ptr 0 0)), .slot 2 (.one (.ptr 1 0)), .blk 0 3 1, .blk 1 3 1, .cell 0 0 (.d (.int .i64)), .cell 1 0 (.d (.int .i64))], [(0, .blk 3 1), (1, .blk 3 1)], 2⟩
def plan_solve_1_v3.R : Tpl := ⟨[.slot 4 (.one (.d .bool))], [(0, .blk 3 1), (1, .blk 3 1)], 9⟩
def plan_solve_1_v3.S : Spec tab := ⟨103, plan_solve_1_v3.A, plan_solve_1_v3.R, [4], fun (t : TplT tab plan_solve_1_v3.A) => plan_solve_1_v3 t.1 t.2.1 t.2.2⟩
def plan_solve_1_v3.h : Hint := .n
theorem plan_solve_1_v3.e (t : TplT tab (plan_solve_1_v3.S).args) : (plan_solve_1_v3.S).fn t = Dfn tt [] (plan_solve_1_v3.S) (codeOf Try.f103) plan_solve_1_v3.h t := by kernel_rfl
theorem plan_solve_1_v3.H : Good Try.prog (plan_solve_1_v3.S) := good_of ttok mixed Try.func103 (by kernel_rfl) (by kernel_rfl) specs_nil (plan_solve_1_v3.e)
def plan_search_choices_v4.A : Tpl := ⟨[.slot 0 (.one (.ptr 0 0)), .slot 1 (.one (.d (.ap (.int .i64)))), .slot 2 (.dat (.st 0)), .blk 0 178 7, .cell 0 0 (.d (.int .i64)), .cell 0 1 (.d (.int .i64)), .cell 0 2 (.d (.sl (.st 0))), .cell 0 3 (.fn 104 1 2), .cell 0 4 (.fn 103 2 2), .cell 0 5 (.own 3 (.int .i64)), .arr 3 (.int .i64) 0, .cell 0 6 (.own 4 .bool), .arr 4 .bool 0, .clo 1 0 (.ptr 5 0), .blk 5 3 1, .clo 1 1 (.ptr 6 0), .blk 6 3 1, .clo 2 0 (.ptr 5 0), .clo 2 1 (.ptr 6 0), .cell 5 0 (.d (.int .i64)), .cell 6 0 (.d (.int .i64))], [(0, .blk 178 7), (3, .arr (.int .i64)), (4, .arr .bool), (5, .blk 3 1), (6, .blk 3 1)], 7⟩
def plan_search_choices_v4.R : Tpl := ⟨[.slot 6 (.one (.own 28 (.int .i64))), .cell 0 2 (.d (.sl (.st 0))), .cell 0 3 (.fn 104 1 2), .cell 0 4 (.fn 103 2 2), .arr 28 (.int .i64) 0], [(0, .blk 178 7), (3, .arr (.int .i64)), (4, .arr .bool), (5, .blk 3 1), (6, .blk 3 1), (28, .arr (.int .i64))], 29⟩
def plan_search_choices_v4.S : Spec tab := ⟨131, plan_search_choices_v4.A, plan_search_choices_v4.R, [6], fun (t : TplT tab plan_search_choices_v4.A) => plan_search_choices_v4 t.1 t.2.1 t.2.2.1 t.2.2.2.1 t.2.2.2.2.1 t.2.2.2.2.2.1 t.2.2.2.2.2.2.1 t.2.2.2.2.2.2.2.1 t.2.2.2.2.2.2.2.2⟩
def plan_search_choices_v4.h : Hint := .s .n (.s .n (.s (.r [(17, 0)]) (.s (.s .n (.lp ⟨[.slot 7 (.one (.own 1628 (.int .i64))), .slot 9 (.one (.d (.int .i64))), .arr 1628 (.int .i64) 0, .kr 30 27], [(0, .blk 178 7), (3, .arr (.int .i64)), (4, .arr .bool), (5, .blk 3 1), (6, .blk 3 1), (28, .blk 78 5), (1628, .arr (.int .i64))], 1629⟩ ⟨[.slot 7 (.one (.own 1628 (.int .i64))), .arr 1628 (.int .i64) 0, .kr 9 1, .kr 30 27], [(0, .blk 178 7), (3, .arr (.int .i64)), (4, .arr .bool), (5, .blk 3 1), (6, .blk 3 1), (28, .blk 78 5), (1628, .arr (.int .i64))], 1629⟩ false [] .n)) .n)))
theorem plan_search_choices_v4.e (t : TplT tab (plan_search_choices_v4.S).args) : (plan_search_choices_v4.S).fn t = Dfn tt [plan_floor.S] (plan_search_choices_v4.S) (codeOf Try.f131) plan_search_choices_v4.h t := by kernel_rfl
theorem plan_search_choices_v4.H : Good Try.prog (plan_search_choices_v4.S) := good_of ttok mixed Try.func131 (by kernel_rfl) (by kernel_rfl) (specs_cons plan_floor.H specs_nil) (plan_search_choices_v4.e)
def plan_solve_2.A : Tpl := ⟨[.slot 0 (.one (.d (.ap (.int .i64)))), .slot 1 (.one (.own 0 (.int .i64))), .slot 2 (.one (.ptr 1 0)), .slot 3 (.one (.ptr 2 0)), .arr 0 (.int .i64) 0, .blk 1 3 1, .blk 2 3 1, .cell 1 0 (.d (.int .i64)), .cell 2 0 (.d (.int .i64))], [(0, .arr (.int .i64)), (1, .blk 3 1), (2, .blk 3 1)], 3⟩
def plan_solve_2.R : Tpl := ⟨[.cell 2 0 (.d (.int .i64))], [(0, .arr (.int .i64)), (1, .blk 3 1), (2, .blk 3 1)], 12⟩
def plan_solve_2.S : Spec tab := ⟨104, plan_solve_2.A, plan_solve_2.R, [], fun (t : TplT tab plan_solve_2.A) => plan_solve_2 t.1 t.2.1 t.2.2.1 t.2.2.2⟩
def plan_solve_2.h : Hint := .n
theorem plan_solve_2.e (t : TplT tab (plan_solve_2.S).args) : (plan_solve_2.S).fn t = Dfn tt [] (plan_solve_2.S) (codeOf Try.f104) plan_solve_2.h t := by kernel_rfl
theorem plan_solve_2.H : Good Try.prog (plan_solve_2.S) := good_of ttok mixed Try.func104 (by kernel_rfl) (by kernel_rfl) specs_nil (plan_solve_2.e)
def plan_bounds_closed.A : Tpl := ⟨[.slot 0 (.one (.d (.ap (.int .i64)))), .slot 1 (.one (.d (.int .i64))), .slot 2 (.one (.d (.int .i64))), .slot 3 (.one (.d (.int .i64))), .slot 4 (.one (.d (.int .i64)))], [], 0⟩
def plan_bounds_closed.R : Tpl := ⟨[.slot 10 (.one (.d (.ap (.int .i64)))), .slot 11 (.one (.d .bool))], [], 5⟩
def plan_bounds_closed.S : Spec tab := ⟨132, plan_bounds_closed.A, plan_bounds_closed.R, [10, 11], fun (t : TplT tab plan_bounds_closed.A) => plan_bounds_closed t.1 t.2.1 t.2.2.1 t.2.2.2.1 t.2.2.2.2⟩
def plan_bounds_closed.h : Hint := .s .n (.s .n (.s .n (.s .n (.s (.s .n (.rg ⟨[.arr 1541 (.int .i64) 1, .kr 13 2, .kr 41 33], [(1541, .arr (.int .i64))], 1797⟩ false (.b (.s .n (.s .n (.rg ⟨[.arr 1541 (.int .i64) 1, .kr 14 1, .kr 45 28], [(1541, .arr (.int .i64))], 2056⟩ false .n)))))) .n))))
theorem plan_bounds_closed.e (t : TplT tab (plan_bounds_closed.S).args) : (plan_bounds_closed.S).fn t = Dfn tt [] (plan_bounds_closed.S) (codeOf Try.f132) plan_bounds_closed.h t := by kernel_rfl
theorem plan_bounds_closed.H : Good Try.prog (plan_bounds_closed.S) := good_of ttok mixed Try.func132 (by kernel_rfl) (by kernel_rfl) specs_nil (plan_bounds_closed.e)
def plan_bounds_between.A : Tpl := ⟨[.slot 0 (.one (.d (.ap (.int .i64)))), .slot 1 (.one (.d (.int .i64))), .slot 2 (.one (.d (.int .i64))), .slot 3 (.one (.d (.int .i64))), .slot 4 (.one (.d (.int .i64))), .slot 5 (.one (.d (.int .i64)))], [], 0⟩
def plan_bounds_between.R : Tpl := ⟨[.slot 12 (.one (.d (.ap (.int .i64)))), .slot 13 (.one (.d .bool))], [], 6⟩
def plan_bounds_between.S : Spec tab := ⟨106, plan_bounds_between.A, plan_bounds_between.R, [12, 13], fun (t : TplT tab plan_bounds_between.A) => plan_bounds_between t.1 t.2.1 t.2.2.1 t.2.2.2.1 t.2.2.2.2.1 t.2.2.2.2.2⟩
def plan_bounds_between.h : Hint := .s .n (.s (.r [(5, 0)]) (.s .n (.s (.r [(6, 0)]) .n)))
theorem plan_bounds_between.e (t : TplT tab (plan_bounds_between.S).args) : (plan_bounds_between.S).fn t = Dfn tt [plan_bounds_closed.S] (plan_bounds_between.S) (codeOf Try.f106) plan_bounds_between.h t := by kernel_rfl
theorem plan_bounds_between.H : Good Try.prog (plan_bounds_between.S) := good_of ttok mixed Try.func106 (by kernel_rfl) (by kernel_rfl) (specs_cons plan_bounds_closed.H specs_nil) (plan_bounds_between.e)
def plan_search_run.A : Tpl := ⟨[.slot 0 (.one (.ptr 0 0)), .slot 1 (.one (.d (.ap (.int .i64)))), .blk 0 178 7, .cell 0 0 (.d (.int .i64)), .cell 0 1 (.d (.int .i64)), .cell 0 2 (.d (.sl (.st 0))), .cell 0 3 (.fn 104 1 2), .cell 0 4 (.fn 103 2 2), .cell 0 5 (.own 3 (.int .i64)), .arr 3 (.int .i64) 0, .cell 0 6 (.own 4 .bool), .arr 4 .bool 0, .clo 1 0 (.ptr 5 0), .blk 5 3 1, .clo 1 1 (.ptr 6 0), .blk 6 3 1, .clo 2 0 (.ptr 5 0), .clo 2 1 (.ptr 6 0), .cell 5 0 (.d (.int .i64)), .cell 6 0 (.d (.int .i64))], [(0, .blk 178 7), (3, .arr (.int .i64)), (4, .arr .bool), (5, .blk 3 1), (6, .blk 3 1)], 7⟩
def plan_search_run.R : Tpl := ⟨[.arr 3 (.int .i64) 0, .arr 4 .bool 0, .cell 0 2 (.d (.sl (.st 0))), .cell 0 3 (.fn 104 1 2), .cell 0 4 (.fn 103 2 2), .cell 6 0 (.d (.int .i64))], [(0, .blk 178 7), (3, .arr (.int .i64)), (4, .arr .bool), (5, .blk 3 1), (6, .blk 3 1)], 27⟩
def plan_search_run.S_ (rec_ : Option (List Int) → Int → Int → List S_plan_Rule → List Int → List Bool → Int → Int → Option (List Int × List Bool × List S_plan_Rule × Int)) : Spec tab := ⟨105, plan_search_run.A, plan_search_run.R, [], fun (t : TplT tab plan_search_run.A) => rec_ t.1 t.2.1 t.2.2.1 t.2.2.2.1 t.2.2.2.2.1 t.2.2.2.2.2.1 t.2.2.2.2.2.2.1 t.2.2.2.2.2.2.2⟩
def plan_search_run.h : Hint := .s (.s (.r [(5, 0)]) .n) (.s .n (.s (.s .n (.rg ⟨[.slot 4 (.one (.d (.int .i64))), .slot 5 (.one (.d (.sl (.int .i64)))), .cell 0 2 (.d (.sl (.st 0))), .cell 0 3 (.fn 104 1 2), .cell 0 4 (.fn 103 2 2), .kr 6 3, .kr 28 29], [(0, .blk 178 7), (3, .arr (.int .i64)), (4, .arr .bool), (5, .blk 3 1), (6, .blk 3 1)], 987⟩ true (.b (.s .n (.s .n (.s (.r [(3, 1)]) (.cut ⟨[.slot 4 (.one (.d (.int .i64))), .slot 5 (.one (.d (.sl (.int .i64)))), .frz 2103 (.int .i64) 0, .kr 43 11], [(0, .blk 178 7), (3, .arr (.int .i64)), (4, .arr .bool), (5, .blk 3 1), (6, .blk 3 1), (1186, .blk 78 5)], 2210⟩ false [] (.cut ⟨[.slot 51 (.one (.d .bool)), .kr 43 8], [(0, .blk 178 7), (3, .arr (.int .i64)), (4, .arr .bool), (5, .blk 3 1), (6, .blk 3 1), (1186, .blk 78 5), (2103, .arr (.int .i64))], 2210⟩ false [] .n .n) .n))))))) (.s (.s .n (.c (.s (.r [(9, 2)]) .n) .n)) (.s .n (.s .n (.s (.s .n (.rg ⟨[.arr 3 (.int .i64) 0, .arr 4 .bool 0, .cell 0 2 (.d (.sl (.st 0))), .cell 0 3 (.fn 104 1 2), .cell 0 4 (.fn 103 2 2), .cell 6 0 (.d (.int .i64)), .kr 11 3, .kr 88 47], [(0, .blk 178 7), (3, .arr (.int .i64)), (4, .arr .bool), (5, .blk 3 1), (6, .blk 3 1), (1634, .blk 78 5)], 2402⟩ false (.b (.s .n (.s (.r [(30, 3)]) (.s .n (.c (.s .n (.r [(2, 4)])) .n))))))) .n))))))
theorem plan_search_run.e (rec_ : Option (List Int) → Int → Int → List S_plan_Rule → List Int → List Bool → Int → Int → Option (List Int × List Bool × List S_plan_Rule × Int)) (t : TplT tab (plan_search_run.S_ rec_).args) : (plan_search_run.S_ (plan_search_run_step rec_)).fn t = Dfn tt [plan_solve_1_v3.S, plan_search_choices_v4.S, plan_solve_2.S, plan_bounds_between.S, plan_search_run.S_ rec_] (plan_search_run.S_ (plan_search_run_step rec_)) (codeOf Try.f105) plan_search_run.h t := by kernel_rfl
def plan_search_run.S : Spec tab := plan_search_run.S_ (plan_search_run)
theorem plan_search_run.H : Good Try.prog (plan_search_run.S) := good_rec (S := plan_search_run.S_) (f := plan_search_run_n) (fun t => rfl) (by kernel_rfl) (fun n h => good_of ttok mixed Try.func105 (by kernel_rfl) (by kernel_rfl) (specs_cons plan_solve_1_v3.H (specs_cons plan_search_choices_v4.H (specs_cons plan_solve_2.H (specs_cons plan_bounds_between.H (specs_cons h specs_nil))))) (plan_search_run.e (plan_search_run_n n))) bigN
def plan_solve.A : Tpl := ⟨[.slot 0 (.dat (.st 1))], [], 0⟩
def plan_solve.R : Tpl := ⟨[.slot 2 (.one (.d (.nsl (.int .i64))))], [], 1⟩
def plan_solve.S : Spec tab := ⟨77, plan_solve.A, plan_solve.R, [2], fun (t : TplT tab plan_solve.A) => plan_solve t⟩
def plan_solve.h : Hint := .s .n (.s (.r [(1, 0)]) (.s (.r [(1, 1)]) (.s .n (.s (.s .n (.lp ⟨[.slot 4 (.one (.d (.ap (.int .i64)))), .slot 5 (.one (.own 769 (.int .i64))), .slot 6 (.one (.ptr 770 0)), .arr 195 (.int .i64) 0, .arr 196 .bool 0, .frz 396 (.int .i64) 0, .rm 513, .cell 194 2 (.d (.sl (.st 0))), .cell 194 3 (.und), .cell 194 4 (.und), .arr 769 (.int .i64) 2, .blk 770 3 1, .cell 770 0 (.d (.int .i64)), .rmb 641, .kr 7 1, .kr 13 38], [(1, .blk 73 3), (194, .blk 178 7), (195, .arr (.int .i64)), (196, .arr .bool), (769, .arr (.int .i64)), (770, .blk 3 1)], 771⟩ ⟨[.slot 5 (.one (.own 769 (.int .i64))), .arr 195 (.int .i64) 0, .arr 196 .bool 0, .frz 396 (.int .i64) 0, .rm 513, .rmb 641, .cell 194 2 (.d (.sl (.st 0))), .cell 194 3 (.und), .cell 194 4 (.und), .arr 769 (.int .i64) 2, .kr 4 1, .kr 6 2, .kr 13 38], [(1, .blk 73 3), (194, .blk 178 7), (195, .arr (.int .i64)), (196, .arr .bool), (769, .arr (.int .i64))], 770⟩ true [] (.s .n (.s (.b (.s .n (.s .n (.s .n (.s (.r [(2, 2)]) (.s .n (.s .n (.r [(6, 3)])))))))) .n)))) .n))))
theorem plan_solve.e (t : TplT tab (plan_solve.S).args) : (plan_solve.S).fn t = Dfn tt [plan_newSearch.S, plan_search_start_v2.S, plan_search_run.S, plan_bounds_between.S] (plan_solve.S) (codeOf Try.f77) plan_solve.h t := by kernel_rfl
theorem plan_solve.H : Good Try.prog (plan_solve.S) := good_of ttok mixed Try.func77 (by kernel_rfl) (by kernel_rfl) (specs_cons plan_newSearch.H (specs_cons plan_search_start_v2.H (specs_cons plan_search_run.H (specs_cons plan_bounds_between.H specs_nil)))) (plan_solve.e)
def plan_Solve.A : Tpl := ⟨[.slot 0 (.agg [.d (.int .i64), .d (.int .i64), .d (.sl (.st 0))])], [], 0⟩
def plan_Solve.R : Tpl := ⟨[.slot 2 (.one (.d (.sl (.int .i64)))), .slot 3 (.one (.d (.int .i64)))], [], 1⟩
def plan_Solve.S : Spec tab := ⟨35, plan_Solve.A, plan_Solve.R, [2, 3], fun (t : TplT tab plan_Solve.A) => plan_Solve t.1 t.2.1 t.2.2⟩
def plan_Solve.h : Hint := .s .n (.s (.s (.r [(1, 0)]) .n) (.s (.r [(1, 1)]) .n))
theorem plan_Solve.e (t : TplT tab (plan_Solve.S).args) : (plan_Solve.S).fn t = Dfn tt [plan_CheckPeriodic.S, plan_solve.S] (plan_Solve.S) (codeOf Try.f35) plan_Solve.h t := by kernel_rfl
theorem plan_Solve.H : Good Try.prog (plan_Solve.S) := good_of ttok mixed Try.func35 (by kernel_rfl) (by kernel_rfl) (specs_cons plan_CheckPeriodic.H (specs_cons plan_solve.H specs_nil)) (plan_Solve.e)
def slices_Equal_int_int.A : Tpl := ⟨[.slot 0 (.one (.d (.sl (.int .i64)))), .slot 1 (.one (.d (.sl (.int .i64))))], [], 0⟩
def slices_Equal_int_int.R : Tpl := ⟨[.slot 4 (.one (.d .bool))], [], 2⟩
def slices_Equal_int_int.S : Spec tab := ⟨39, slices_Equal_int_int.A, slices_Equal_int_int.R, [4], fun (t : TplT tab slices_Equal_int_int.A) => slices_Equal_int_int t.1 t.2⟩
def slices_Equal_int_int.h : Hint := .s .n (.s .n (.s (.s .n (.rg ⟨[.kr 5 1, .kr 15 10], [], 578⟩ true .n)) .n))
theorem slices_Equal_int_int.e (t : TplT tab (slices_Equal_int_int.S).args) : (slices_Equal_int_int.S).fn t = Dfn tt [] (slices_Equal_int_int.S) (codeOf Try.f39) slices_Equal_int_int.h t := by kernel_rfl
theorem slices_Equal_int_int.H : Good Try.prog (slices_Equal_int_int.S) := good_of ttok mixed Try.func39 (by kernel_rfl) (by kernel_rfl) specs_nil (slices_Equal_int_int.e)
def fishkeep2_periods.A : Tpl := ⟨[], [], 0⟩
def fishkeep2_periods.R : Tpl := ⟨[.slot 0 (.one (.d .bool))], [], 0⟩
def fishkeep2_periods.S : Spec tab := ⟨30, fishkeep2_periods.A, fishkeep2_periods.R, [0], fun _ => fishkeep2_periods⟩
def fishkeep2_periods.h : Hint := .s .n (.s .n (.s (.r [(1, 0)]) (.cut ⟨[.slot 0 (.one (.d .bool)), .kr 12 7], [(256, .blk 73 3)], 832⟩ false [] (.r [(5, 1)]) .n)))
theorem fishkeep2_periods.e (t : TplT tab (fishkeep2_periods.S).args) : (fishkeep2_periods.S).fn t = Dfn tt [plan_Solve.S, slices_Equal_int_int.S] (fishkeep2_periods.S) (codeOf Try.f30) fishkeep2_periods.h t := by kernel_rfl
theorem fishkeep2_periods.H : Good Try.prog (fishkeep2_periods.S) := good_of ttok mixed Try.func30 (by kernel_rfl) (by kernel_rfl) (specs_cons plan_Solve.H (specs_cons slices_Equal_int_int.H specs_nil)) (fishkeep2_periods.e)
def slices_Grow_plan_Rule_plan_Rule.A : Tpl := ⟨[.slot 0 (.one (.nils)), .slot 1 (.one (.d (.int .i64)))], [], 0⟩
def slices_Grow_plan_Rule_plan_Rule.R : Tpl := ⟨[.slot 4 (.one (.own 2 (.st 0))), .arr 2 (.st 0) 0], [(2, .arr (.st 0))], 3⟩
def slices_Grow_plan_Rule_plan_Rule.S : Spec tab := ⟨107, slices_Grow_plan_Rule_plan_Rule.A, slices_Grow_plan_Rule_plan_Rule.R, [4], fun (t : TplT tab slices_Grow_plan_Rule_plan_Rule.A) => slices_Grow_plan_Rule_plan_Rule t⟩
def slices_Grow_plan_Rule_plan_Rule.h : Hint := .s .n (.s .n (.cut ⟨[.slot 0 (.one (.own 194 (.st 0))), .arr 194 (.st 0) 0, .kr 1 1, .kr 8 18], [(194, .arr (.st 0))], 195⟩ false [] .n .n))
theorem slices_Grow_plan_Rule_plan_Rule.e (t : TplT tab (slices_Grow_plan_Rule_plan_Rule.S).args) : (slices_Grow_plan_Rule_plan_Rule.S).fn t = Dfn tt [] (slices_Grow_plan_Rule_plan_Rule.S) (codeOf Try.f107) slices_Grow_plan_Rule_plan_Rule.h t := by kernel_rfl
theorem slices_Grow_plan_Rule_plan_Rule.H : Good Try.prog (slices_Grow_plan_Rule_plan_Rule.S) := good_of ttok mixed Try.func107 (by kernel_rfl) (by kernel_rfl) specs_nil (slices_Grow_plan_Rule_plan_Rule.e)
def slices_Concat_plan_Rule_plan_Rule.A : Tpl := ⟨[.slot 0 (.one (.d (.sl (.sl (.st 0)))))], [], 0⟩
def slices_Concat_plan_Rule_plan_Rule.R : Tpl := ⟨[.slot 2 (.one (.own 1 (.st 0))), .arr 1 (.st 0) 0], [(1, .arr (.st 0))], 2⟩
def slices_Concat_plan_Rule_plan_Rule.S : Spec tab := ⟨78, slices_Concat_plan_Rule_plan_Rule.A, slices_Concat_plan_Rule_plan_Rule.R, [2], fun (t : TplT tab slices_Concat_plan_Rule_plan_Rule.A) => slices_Concat_plan_Rule_plan_Rule t⟩
def slices_Concat_plan_Rule_plan_Rule.h : Hint := .s .n (.s .n (.s (.s .n (.rg ⟨[.slot 3 (.one (.d (.int .i64))), .kr 5 1, .kr 13 8], [], 321⟩ false .n)) (.s (.r [(1, 0)]) (.s (.s .n (.rg ⟨[.slot 6 (.one (.own 708 (.st 0))), .rm 388, .arr 708 (.st 0) 0, .kr 8 1, .kr 29 5], [(708, .arr (.st 0))], 709⟩ false .n)) .n))))
theorem slices_Concat_plan_Rule_plan_Rule.e (t : TplT tab (slices_Concat_plan_Rule_plan_Rule.S).args) : (slices_Concat_plan_Rule_plan_Rule.S).fn t = Dfn tt [slices_Grow_plan_Rule_plan_Rule.S] (slices_Concat_plan_Rule_plan_Rule.S) (codeOf Try.f78) slices_Concat_plan_Rule_plan_Rule.h t := by kernel_rfl
theorem slices_Concat_plan_Rule_plan_Rule.H : Good Try.prog (slices_Concat_plan_Rule_plan_Rule.S) := good_of ttok mixed Try.func78 (by kernel_rfl) (by kernel_rfl) (specs_cons slices_Grow_plan_Rule_plan_Rule.H specs_nil) (slices_Concat_plan_Rule_plan_Rule.e)
def plan_solve_v2.A : Tpl := ⟨[.slot 0 (.agg [.d (.int .i64), .d (.int .i64), .d (.sl (.st 0))])], [], 0⟩
def plan_solve_v2.R : Tpl := ⟨[.slot 2 (.one (.d (.nsl (.int .i64))))], [], 1⟩
def plan_solve_v2.S : Spec tab := ⟨77, plan_solve_v2.A, plan_solve_v2.R, [2], fun (t : TplT tab plan_solve_v2.A) => plan_solve_v2 t.1 t.2.1 t.2.2⟩
def plan_solve_v2.h : Hint := .s .n (.s (.r [(1, 0)]) (.s (.r [(1, 1)]) (.s .n (.s (.s .n (.lp ⟨[.slot 4 (.one (.d (.ap (.int .i64)))), .slot 5 (.one (.own 769 (.int .i64))), .slot 6 (.one (.ptr 770 0)), .arr 195 (.int .i64) 0, .arr 196 .bool 0, .frz 396 (.int .i64) 0, .rm 513, .cell 194 2 (.d (.sl (.st 0))), .cell 194 3 (.und), .cell 194 4 (.und), .arr 769 (.int .i64) 2, .blk 770 3 1, .cell 770 0 (.d (.int .i64)), .rmb 641, .kr 7 1, .kr 13 38], [(1, .blk 73 3), (194, .blk 178 7), (195, .arr (.int .i64)), (196, .arr .bool), (769, .arr (.int .i64)), (770, .blk 3 1)], 771⟩ ⟨[.slot 5 (.one (.own 769 (.int .i64))), .arr 195 (.int .i64) 0, .arr 196 .bool 0, .frz 396 (.int .i64) 0, .rm 513, .rmb 641, .cell 194 2 (.d (.sl (.st 0))), .cell 194 3 (.und), .cell 194 4 (.und), .arr 769 (.int .i64) 2, .kr 4 1, .kr 6 2, .kr 13 38], [(1, .blk 73 3), (194, .blk 178 7), (195, .arr (.int .i64)), (196, .arr .bool), (769, .arr (.int .i64))], 770⟩ true [] (.s .n (.s (.b (.s .n (.s .n (.s .n (.s (.r [(2, 2)]) (.s .n (.s .n (.r [(6, 3)])))))))) .n)))) .n))))
theorem plan_solve_v2.e (t : TplT tab (plan_solve_v2.S).args) : (plan_solve_v2.S).fn t = Dfn tt [plan_newSearch.S, plan_search_start_v2.S, plan_search_run.S, plan_bounds_between.S] (plan_solve_v2.S) (codeOf Try.f77) plan_solve_v2.h t := by kernel_rfl
theorem plan_solve_v2.H : Good Try.prog (plan_solve_v2.S) := good_of ttok mixed Try.func77 (by kernel_rfl) (by kernel_rfl) (specs_cons plan_newSearch.H (specs_cons plan_search_start_v2.H (specs_cons plan_search_run.H (specs_cons plan_bounds_between.H specs_nil)))) (plan_solve_v2.e)
def plan_Core.A : Tpl := ⟨[.slot 0 (.dat (.st 1))], [], 0⟩
def plan_Core.R : Tpl := ⟨[.slot 2 (.one (.own 1 (.int .i64))), .slot 3 (.one (.d (.int .i64))), .arr 1 (.int .i64) 0], [(1, .arr (.int .i64))], 2⟩
def plan_Core.S : Spec tab := ⟨31, plan_Core.A, plan_Core.R, [2, 3], fun (t : TplT tab plan_Core.A) => plan_Core t⟩
def plan_Core.h : Hint := .s .n (.s (.s (.r [(1, 0)]) .n) (.s (.s (.r [(1, 1)]) .n) (.s .n (.s .n (.s .n (.s (.s .n (.rg ⟨[.slot 5 (.one (.own 1281 (.int .i64))), .slot 6 (.one (.d (.sl (.st 0)))), .slot 7 (.one (.own 1282 (.st 0))), .arr 1281 (.int .i64) 0, .arr 1282 (.st 0) 0, .kr 8 3, .kr 26 25], [(1, .blk 73 3), (1281, .arr (.int .i64)), (1282, .arr (.st 0))], 1283⟩ false (.b (.s .n (.s .n (.cut ⟨[.slot 10 (.one (.ptr 1866 0)), .blk 1866 73 3, .cell 1866 0 (.d (.int .i64)), .cell 1866 1 (.d (.int .i64)), .cell 1866 2 (.own 1867 (.st 0)), .arr 1867 (.st 0) 0, .kr 31 9], [(1, .blk 73 3), (1281, .arr (.int .i64)), (1282, .arr (.st 0)), (1482, .blk 78 5), (1866, .blk 73 3), (1867, .arr (.st 0))], 1868⟩ false [] (.r [(6, 3), (7, 2)]) (.s (.r [(1, 3)]) .n))))))) .n))))))
theorem plan_Core.e (t : TplT tab (plan_Core.S).args) : (plan_Core.S).fn t = Dfn tt [plan_CheckPeriodic.S, plan_solve.S, slices_Concat_plan_Rule_plan_Rule.S, plan_solve_v2.S] (plan_Core.S) (codeOf Try.f31) plan_Core.h t := by kernel_rfl
theorem plan_Core.H : Good Try.prog (plan_Core.S) := good_of ttok mixed Try.func31 (by kernel_rfl) (by kernel_rfl) (specs_cons plan_CheckPeriodic.H (specs_cons plan_solve.H (specs_cons slices_Concat_plan_Rule_plan_Rule.H (specs_cons plan_solve_v2.H specs_nil)))) (plan_Core.e)
def fishkeep2_PlanCore_1.A : Tpl := ⟨[.slot 0 (.one (.d (.int .i64))), .slot 1 (.one (.d (.opt (.st 1))))], [], 0⟩
def fishkeep2_PlanCore_1.R : Tpl := ⟨[.slot 3 (.one (.d .bool))], [], 2⟩
def fishkeep2_PlanCore_1.S : Spec tab := ⟨33, fishkeep2_PlanCore_1.A, fishkeep2_PlanCore_1.R, [3], fun (t : TplT tab fishkeep2_PlanCore_1.A) => fishkeep2_PlanCore_1 t.1 t.2⟩
def fishkeep2_PlanCore_1.h : Hint := .s .n (.cut ⟨[.slot 3 (.one (.d .bool)), .kr 4 9], [], 66⟩ false [] .n .n)
theorem fishkeep2_PlanCore_1.e (t : TplT tab (fishkeep2_PlanCore_1.S).args) : (fishkeep2_PlanCore_1.S).fn t = Dfn tt [] (fishkeep2_PlanCore_1.S) (codeOf Try.f33) fishkeep2_PlanCore_1.h t := by kernel_rfl
theorem fishkeep2_PlanCore_1.H : Good Try.prog (fishkeep2_PlanCore_1.S) := good_of ttok mixed Try.func33 (by kernel_rfl) (by kernel_rfl) specs_nil (fishkeep2_PlanCore_1.e)
def slices_IndexFunc_int_int.A : Tpl := ⟨[.slot 0 (.one (.d (.sl (.int .i64)))), .slot 1 (.one (.fn 33 0 1)), .clo 0 0 (.d (.opt (.st 1)))], [], 1⟩
def slices_IndexFunc_int_int.R : Tpl := ⟨[.slot 4 (.one (.d (.int .i64)))], [], 4⟩
def slices_IndexFunc_int_int.S : Spec tab := ⟨79, slices_IndexFunc_int_int.A, slices_IndexFunc_int_int.R, [4], fun (t : TplT tab slices_IndexFunc_int_int.A) => slices_IndexFunc_int_int t.1 t.2⟩
def slices_IndexFunc_int_int.h : Hint := .s .n (.s (.s .n (.rg ⟨[.kr 5 1, .kr 10 7], [], 260⟩ true (.b (.s .n (.s (.r [(5, 0)]) .n))))) .n)
theorem slices_IndexFunc_int_int.e (t : TplT tab (slices_IndexFunc_int_int.S).args) : (slices_IndexFunc_int_int.S).fn t = Dfn tt [fishkeep2_PlanCore_1.S] (slices_IndexFunc_int_int.S) (codeOf Try.f79) slices_IndexFunc_int_int.h t := by kernel_rfl
theorem slices_IndexFunc_int_int.H : Good Try.prog (slices_IndexFunc_int_int.S) := good_of ttok mixed Try.func79 (by kernel_rfl) (by kernel_rfl) (specs_cons fishkeep2_PlanCore_1.H specs_nil) (slices_IndexFunc_int_int.e)
def slices_ContainsFunc_int_int.A : Tpl := ⟨[.slot 0 (.one (.d (.sl (.int .i64)))), .slot 1 (.one (.fn 33 0 1)), .clo 0 0 (.d (.opt (.st 1)))], [], 1⟩
def slices_ContainsFunc_int_int.R : Tpl := ⟨[.slot 4 (.one (.d .bool))], [], 4⟩
def slices_ContainsFunc_int_int.S : Spec tab := ⟨32, slices_ContainsFunc_int_int.A, slices_ContainsFunc_int_int.R, [4], fun (t : TplT tab slices_ContainsFunc_int_int.A) => slices_ContainsFunc_int_int t.1 t.2⟩
def slices_ContainsFunc_int_int.h : Hint := .s .n (.s (.r [(2, 0)]) .n)
theorem slices_ContainsFunc_int_int.e (t : TplT tab (slices_ContainsFunc_int_int.S).args) : (slices_ContainsFunc_int_int.S).fn t = Dfn tt [slices_IndexFunc_int_int.S] (slices_ContainsFunc_int_int.S) (codeOf Try.f32) slices_ContainsFunc_int_int.h t := by kernel_rfl
theorem slices_ContainsFunc_int_int.H : Good Try.prog (slices_ContainsFunc_int_int.S) := good_of ttok mixed Try.func32 (by kernel_rfl) (by kernel_rfl) (specs_cons slices_IndexFunc_int_int.H specs_nil) (slices_ContainsFunc_int_int.e)
def fishkeep2_PlanCore_2.A : Tpl := ⟨[.slot 0 (.one (.d (.int .i64))), .slot 1 (.one (.d (.opt (.st 1)))), .slot 2 (.one (.d (.opt (.sl (.int .i64)))))], [], 0⟩
def fishkeep2_PlanCore_2.R : Tpl := ⟨[.slot 76546052 (.dat (.st 1))], [], 3⟩
def fishkeep2_PlanCore_2.S : Spec tab := ⟨34, fishkeep2_PlanCore_2.A, fishkeep2_PlanCore_2.R, [76546052], fun (t : TplT tab fishkeep2_PlanCore_2.A) => fishkeep2_PlanCore_2 t.1 t.2.1 t.2.2⟩
def fishkeep2_PlanCore_2.h : Hint := .s .n (.s .n (.s (.s .n (.rg ⟨[.cell 387 2 (.own 707 (.st 0)), .arr 707 (.st 0) 0, .kr 7 1, .kr 17 15], [(3, .blk 73 3), (387, .blk 73 3), (707, .arr (.st 0))], 708⟩ false .n)) .n))
theorem fishkeep2_PlanCore_2.e (t : TplT tab (fishkeep2_PlanCore_2.S).args) : (fishkeep2_PlanCore_2.S).fn t = Dfn tt [] (fishkeep2_PlanCore_2.S) (codeOf Try.f34) fishkeep2_PlanCore_2.h t := by kernel_rfl
theorem fishkeep2_PlanCore_2.H : Good Try.prog (fishkeep2_PlanCore_2.S) := good_of ttok mixed Try.func34 (by kernel_rfl) (by kernel_rfl) specs_nil (fishkeep2_PlanCore_2.e)
def plan_Solve_v2.A : Tpl := ⟨[.slot 0 (.dat (.st 1))], [], 0⟩
def plan_Solve_v2.R : Tpl := ⟨[.slot 2 (.one (.d (.sl (.int .i64)))), .slot 3 (.one (.d (.int .i64)))], [], 1⟩
def plan_Solve_v2.S : Spec tab := ⟨35, plan_Solve_v2.A, plan_Solve_v2.R, [2, 3], fun (t : TplT tab plan_Solve_v2.A) => plan_Solve_v2 t⟩
def plan_Solve_v2.h : Hint := .s .n (.s (.s (.r [(1, 0)]) .n) (.s (.r [(1, 1)]) .n))
theorem plan_Solve_v2.e (t : TplT tab (plan_Solve_v2.S).args) : (plan_Solve_v2.S).fn t = Dfn tt [plan_CheckPeriodic.S, plan_solve.S] (plan_Solve_v2.S) (codeOf Try.f35) plan_Solve_v2.h t := by kernel_rfl
theorem plan_Solve_v2.H : Good Try.prog (plan_Solve_v2.S) := good_of ttok mixed Try.func35 (by kernel_rfl) (by kernel_rfl) (specs_cons plan_CheckPeriodic.H (specs_cons plan_solve.H specs_nil)) (plan_Solve_v2.e)
def fishref2_within.A : Tpl := ⟨[.slot 0 (.one (.d (.int .i64))), .slot 1 (.one (.d (.int .i64))), .slot 2 (.one (.d (.int .i64)))], [], 0⟩
def fishref2_within.R : Tpl := ⟨[.slot 6 (.one (.d .bool))], [], 3⟩
def fishref2_within.S : Spec tab := ⟨63, fishref2_within.A, fishref2_within.R, [6], fun (t : TplT tab fishref2_within.A) => fishref2_within t.1 t.2.1 t.2.2⟩
def fishref2_within.h : Hint := .s .n (.cut ⟨[.slot 6 (.one (.d .bool)), .kr 7 8], [], 67⟩ false [] .n .n)
theorem fishref2_within.e (t : TplT tab (fishref2_within.S).args) : (fishref2_within.S).fn t = Dfn tt [] (fishref2_within.S) (codeOf Try.f63) fishref2_within.h t := by kernel_rfl
theorem fishref2_within.H : Good Try.prog (fishref2_within.S) := good_of ttok mixed Try.func63 (by kernel_rfl) (by kernel_rfl) specs_nil (fishref2_within.e)
def fishref2_PeriodicFault.A : Tpl := ⟨[.slot 0 (.dat (.st 1))], [], 0⟩
def fishref2_PeriodicFault.R : Tpl := ⟨[.slot 2 (.one (.d (.int .i64)))], [], 1⟩
def fishref2_PeriodicFault.S : Spec tab := ⟨80, fishref2_PeriodicFault.A, fishref2_PeriodicFault.R, [2], fun (t : TplT tab fishref2_PeriodicFault.A) => fishref2_PeriodicFault t⟩
def fishref2_PeriodicFault.h : Hint := .s .n (.s (.cut ⟨[.slot 14 (.one (.d .bool)), .kr 5 9], [(1, .blk 73 3)], 129⟩ false [] (.r [(2, 0), (7, 0)]) .n) (.s .n (.s (.s .n (.rg ⟨[.kr 4 1, .kr 24 54], [(1, .blk 73 3)], 643⟩ true (.b (.s .n (.b (.cut ⟨[.slot 26 (.one (.d .bool)), .kr 27 16], [(1, .blk 73 3), (773, .blk 78 5)], 901⟩ false [] (.r [(5, 0), (13, 0)]) (.c .n (.s .n (.c .n (.cut ⟨[.slot 49 (.one (.d .bool)), .kr 50 28], [(1, .blk 73 3), (773, .blk 78 5)], 1287⟩ false [] (.r [(2, 0), (25, 0)]) .n)))))))))) .n)))
theorem fishref2_PeriodicFault.e (t : TplT tab (fishref2_PeriodicFault.S).args) : (fishref2_PeriodicFault.S).fn t = Dfn tt [fishref2_within.S] (fishref2_PeriodicFault.S) (codeOf Try.f80) fishref2_PeriodicFault.h t := by kernel_rfl
theorem fishref2_PeriodicFault.H : Good Try.prog (fishref2_PeriodicFault.S) := good_of ttok mixed Try.func80 (by kernel_rfl) (by kernel_rfl) (specs_cons fishref2_within.H specs_nil) (fishref2_PeriodicFault.e)
def fishref2_TimesFault.A : Tpl := ⟨[.slot 0 (.dat (.st 1)), .slot 1 (.one (.d (.sl (.int .i64))))], [], 0⟩
def fishref2_TimesFault.R : Tpl := ⟨[.slot 4 (.one (.d (.int .i64)))], [], 2⟩
def fishref2_TimesFault.S : Spec tab := ⟨36, fishref2_TimesFault.A, fishref2_TimesFault.R, [4], fun (t : TplT tab fishref2_TimesFault.A) => fishref2_TimesFault t.1 t.2⟩
def fishref2_TimesFault.h : Hint := .s .n (.s (.s (.r [(1, 0)]) .n) (.s .n (.s (.s .n (.rg ⟨[.kr 7 1, .kr 22 8], [(2, .blk 73 3)], 962⟩ true (.b (.s .n (.s (.r [(4, 1)]) .n))))) .n)))
theorem fishref2_TimesFault.e (t : TplT tab (fishref2_TimesFault.S).args) : (fishref2_TimesFault.S).fn t = Dfn tt [fishref2_PeriodicFault.S, fishref2_within.S] (fishref2_TimesFault.S) (codeOf Try.f36) fishref2_TimesFault.h t := by kernel_rfl
theorem fishref2_TimesFault.H : Good Try.prog (fishref2_TimesFault.S) := good_of ttok mixed Try.func36 (by kernel_rfl) (by kernel_rfl) (specs_cons fishref2_PeriodicFault.H (specs_cons fishref2_within.H specs_nil)) (fishref2_TimesFault.e)
def fishref2_GapOf.A : Tpl := ⟨[.slot 0 (.dat (.st 1)), .slot 1 (.dat (.st 0)), .slot 2 (.one (.d (.sl (.int .i64))))], [], 0⟩
def fishref2_GapOf.R : Tpl := ⟨[.slot 6 (.one (.d (.int .i64)))], [], 3⟩
def fishref2_GapOf.S : Spec tab := ⟨83, fishref2_GapOf.A, fishref2_GapOf.R, [6], fun (t : TplT tab fishref2_GapOf.A) => fishref2_GapOf t.1 t.2.1 t.2.2⟩
def fishref2_GapOf.h : Hint := .s .n (.s .n (.s (.lp ⟨[.slot 7 (.one (.d (.int .i64))), .kr 19 8], [(3, .blk 73 3), (67, .blk 78 5)], 963⟩ ⟨[.slot 7 (.one (.d (.int .i64))), .kr 19 8], [(3, .blk 73 3), (67, .blk 78 5)], 963⟩ false [] .n) (.s (.lp ⟨[.slot 7 (.one (.d (.int .i64))), .kr 27 11], [(3, .blk 73 3), (67, .blk 78 5)], 965⟩ ⟨[.slot 7 (.one (.d (.int .i64))), .kr 27 11], [(3, .blk 73 3), (67, .blk 78 5)], 965⟩ false [] .n) .n)))
theorem fishref2_GapOf.e (t : TplT tab (fishref2_GapOf.S).args) : (fishref2_GapOf.S).fn t = Dfn tt [] (fishref2_GapOf.S) (codeOf Try.f83) fishref2_GapOf.h t := by kernel_rfl
theorem fishref2_GapOf.H : Good Try.prog (fishref2_GapOf.S) := good_of ttok mixed Try.func83 (by kernel_rfl) (by kernel_rfl) specs_nil (fishref2_GapOf.e)
def fishref2_BrokenOf_1.A : Tpl := ⟨[.slot 0 (.dat (.st 0)), .slot 1 (.one (.d (.opt (.st 1)))), .slot 2 (.one (.d (.opt (.sl (.int .i64)))))], [], 0⟩
def fishref2_BrokenOf_1.R : Tpl := ⟨[.slot 4 (.one (.d .bool))], [], 3⟩
def fishref2_BrokenOf_1.S : Spec tab := ⟨82, fishref2_BrokenOf_1.A, fishref2_BrokenOf_1.R, [4], fun (t : TplT tab fishref2_BrokenOf_1.A) => fishref2_BrokenOf_1 t.1 t.2.1 t.2.2⟩
def fishref2_BrokenOf_1.h : Hint := .s .n (.s (.r [(3, 0)]) .n)
theorem fishref2_BrokenOf_1.e (t : TplT tab (fishref2_BrokenOf_1.S).args) : (fishref2_BrokenOf_1.S).fn t = Dfn tt [fishref2_GapOf.S] (fishref2_BrokenOf_1.S) (codeOf Try.f82) fishref2_BrokenOf_1.h t := by kernel_rfl
theorem fishref2_BrokenOf_1.H : Good Try.prog (fishref2_BrokenOf_1.S) := good_of ttok mixed Try.func82 (by kernel_rfl) (by kernel_rfl) (specs_cons fishref2_GapOf.H specs_nil) (fishref2_BrokenOf_1.e)
def slices_IndexFunc_plan_Rule_plan_Rule.A : Tpl := ⟨[.slot 0 (.one (.d (.sl (.st 0)))), .slot 1 (.one (.fn 82 0 2)), .clo 0 0 (.d (.opt (.st 1))), .clo 0 1 (.d (.opt (.sl (.int .i64))))], [], 1⟩
def slices_IndexFunc_plan_Rule_plan_Rule.R : Tpl := ⟨[.slot 4 (.one (.d (.int .i64)))], [], 5⟩
def slices_IndexFunc_plan_Rule_plan_Rule.S : Spec tab := ⟨81, slices_IndexFunc_plan_Rule_plan_Rule.A, slices_IndexFunc_plan_Rule_plan_Rule.R, [4], fun (t : TplT tab slices_IndexFunc_plan_Rule_plan_Rule.A) => slices_IndexFunc_plan_Rule_plan_Rule t.1 t.2.1 t.2.2⟩
def slices_IndexFunc_plan_Rule_plan_Rule.h : Hint := .s .n (.s (.s .n (.rg ⟨[.kr 5 1, .kr 10 7], [], 261⟩ true (.b (.s .n (.s (.r [(5, 0)]) .n))))) .n)
theorem slices_IndexFunc_plan_Rule_plan_Rule.e (t : TplT tab (slices_IndexFunc_plan_Rule_plan_Rule.S).args) : (slices_IndexFunc_plan_Rule_plan_Rule.S).fn t = Dfn tt [fishref2_BrokenOf_1.S] (slices_IndexFunc_plan_Rule_plan_Rule.S) (codeOf Try.f81) slices_IndexFunc_plan_Rule_plan_Rule.h t := by kernel_rfl
theorem slices_IndexFunc_plan_Rule_plan_Rule.H : Good Try.prog (slices_IndexFunc_plan_Rule_plan_Rule.S) := good_of ttok mixed Try.func81 (by kernel_rfl) (by kernel_rfl) (specs_cons fishref2_BrokenOf_1.H specs_nil) (slices_IndexFunc_plan_Rule_plan_Rule.e)
def fishref2_BrokenOf.A : Tpl := ⟨[.slot 0 (.dat (.st 1)), .slot 1 (.one (.d (.sl (.int .i64))))], [], 0⟩
def fishref2_BrokenOf.R : Tpl := ⟨[.slot 4 (.one (.d (.int .i64)))], [], 2⟩
def fishref2_BrokenOf.S : Spec tab := ⟨37, fishref2_BrokenOf.A, fishref2_BrokenOf.R, [4], fun (t : TplT tab fishref2_BrokenOf.A) => fishref2_BrokenOf t.1 t.2⟩
def fishref2_BrokenOf.h : Hint := .s .n (.s (.r [(3, 0)]) .n)
theorem fishref2_BrokenOf.e (t : TplT tab (fishref2_BrokenOf.S).args) : (fishref2_BrokenOf.S).fn t = Dfn tt [slices_IndexFunc_plan_Rule_plan_Rule.S] (fishref2_BrokenOf.S) (codeOf Try.f37) fishref2_BrokenOf.h t := by kernel_rfl
theorem fishref2_BrokenOf.H : Good Try.prog (fishref2_BrokenOf.S) := good_of ttok mixed Try.func37 (by kernel_rfl) (by kernel_rfl) (specs_cons slices_IndexFunc_plan_Rule_plan_Rule.H specs_nil) (fishref2_BrokenOf.e)
def fishkeep2_PlanCore.A : Tpl := ⟨[.slot 0 (.dat (.st 1))], [], 0⟩
def fishkeep2_PlanCore.R : Tpl := ⟨[.slot 2 (.one (.d .bool))], [], 1⟩
def fishkeep2_PlanCore.S : Spec tab := ⟨6, fishkeep2_PlanCore.A, fishkeep2_PlanCore.R, [2], fun (t : TplT tab fishkeep2_PlanCore.A) => fishkeep2_PlanCore t⟩
def fishkeep2_PlanCore.h : Hint := .s .n (.s (.s (.r [(0, 0)]) .n) (.s (.s (.r [(0, 1)]) .n) (.s (.r [(1, 2)]) (.s .n (.s (.s (.r [(2, 3)]) .n) (.s .n (.s (.s (.r [(1, 4), (2, 5)]) .n) (.s (.s .n (.rg ⟨[.kr 9 3, .kr 42 27], [], 2177⟩ true (.b (.s .n (.s (.r [(2, 4), (3, 5)]) (.cut ⟨[.slot 68 (.one (.d .bool)), .kr 51 17], [], 2947⟩ false [] (.r [(5, 4), (7, 6), (13, 4), (15, 7)]) .n)))))) .n))))))))
theorem fishkeep2_PlanCore.e (t : TplT tab (fishkeep2_PlanCore.S).args) : (fishkeep2_PlanCore.S).fn t = Dfn tt [fishkeep2_awakePlan.S, fishkeep2_periods.S, plan_Core.S, slices_ContainsFunc_int_int.S, fishkeep2_PlanCore_2.S, plan_Solve_v2.S, fishref2_TimesFault.S, fishref2_BrokenOf.S] (fishkeep2_PlanCore.S) (codeOf Try.f6) fishkeep2_PlanCore.h t := by kernel_rfl
theorem fishkeep2_PlanCore.H : Good Try.prog (fishkeep2_PlanCore.S) := good_of ttok mixed Try.func6 (by kernel_rfl) (by kernel_rfl) (specs_cons fishkeep2_awakePlan.H (specs_cons fishkeep2_periods.H (specs_cons plan_Core.H (specs_cons slices_ContainsFunc_int_int.H (specs_cons fishkeep2_PlanCore_2.H (specs_cons plan_Solve_v2.H (specs_cons fishref2_TimesFault.H (specs_cons fishref2_BrokenOf.H specs_nil)))))))) (fishkeep2_PlanCore.e)
end Hd
