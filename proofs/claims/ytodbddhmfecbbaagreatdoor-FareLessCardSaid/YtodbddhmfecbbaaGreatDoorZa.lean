/- Each call returns what its plain function gives. Printed by a tool. -/
import Derived.Test.YtodbddhmfecbbaaGreatDoorZT
set_option linter.unusedVariables false
set_option linter.unusedSimpArgs false
set_option maxRecDepth 100000
set_option maxHeartbeats 4000000
namespace Hd
open Go Hk Go.Proofs
def fishkeep2_awakeFare.A : Tpl := ⟨[], [], 0⟩
def fishkeep2_awakeFare.R : Tpl := ⟨[.slot 0 (.one (.d .bool))], [], 0⟩
def fishkeep2_awakeFare.S : Spec tab := ⟨8, fishkeep2_awakeFare.A, fishkeep2_awakeFare.R, [0], fun _ => fishkeep2_awakeFare⟩
theorem fishkeep2_awakeFare.H : Good Tryz.prog fishkeep2_awakeFare.S := true_good (B := tab) (by kernel_rfl) fun w => trueCalls_awakeFare w
def fare_within.A : Tpl := ⟨[.slot 0 (.one (.d (.int .i64))), .slot 1 (.one (.d (.int .i64))), .slot 2 (.one (.d (.int .i64)))], [], 0⟩
def fare_within.R : Tpl := ⟨[.slot 6 (.one (.d .bool))], [], 3⟩
def fare_within.S : Spec tab := ⟨38, fare_within.A, fare_within.R, [6], fun (t : TplT tab fare_within.A) => fare_within t.1 t.2.1 t.2.2⟩
def fare_within.h : Hint := .s .n (.cut ⟨[.slot 6 (.one (.d .bool)), .kr 7 8], [], 67⟩ false [] .n .n)
theorem fare_within.e (t : TplT tab (fare_within.S).args) : (fare_within.S).fn t = Dfn tt [] (fare_within.S) (codeOf Tryz.f38) fare_within.h t := by kernel_rfl
theorem fare_within.H : Good Tryz.prog (fare_within.S) := good_of ttok mixed Tryz.func38 (by kernel_rfl) (by kernel_rfl) specs_nil (fare_within.e)
def fare_Cond_size.A : Tpl := ⟨[.slot 0 (.dat (.st 1))], [], 0⟩
def fare_Cond_size.R : Tpl := ⟨[.slot 2 (.one (.d (.int .i64))), .slot 3 (.one (.d (.int .i64)))], [], 1⟩
def fare_Cond_size.S_ (rec_ : S_fare_Cond → Option (Int × Int)) : Spec tab := ⟨103, fare_Cond_size.A, fare_Cond_size.R, [2, 3], fun (t : TplT tab fare_Cond_size.A) => rec_ t⟩
def fare_Cond_size.h : Hint := .s .n (.s .n (.s (.s .n (.rg ⟨[.slot 2 (.one (.d (.int .i64))), .slot 3 (.one (.d (.int .i64))), .kr 5 3, .kr 13 13], [(1, .blk 87 4)], 513⟩ false (.b (.s .n (.s (.r [(1, 0)]) .n))))) .n))
theorem fare_Cond_size.e (rec_ : S_fare_Cond → Option (Int × Int)) (t : TplT tab (fare_Cond_size.S_ rec_).args) : (fare_Cond_size.S_ (fare_Cond_size_step rec_)).fn t = Dfn tt [fare_Cond_size.S_ rec_] (fare_Cond_size.S_ (fare_Cond_size_step rec_)) (codeOf Tryz.f103) fare_Cond_size.h t := by kernel_rfl
def fare_Cond_size.S : Spec tab := fare_Cond_size.S_ (fare_Cond_size)
theorem fare_Cond_size.H : Good Tryz.prog (fare_Cond_size.S) := good_rec (S := fare_Cond_size.S_) (f := fare_Cond_size_n) (fun t => rfl) (by kernel_rfl) (fun n h => good_of ttok mixed Tryz.func103 (by kernel_rfl) (by kernel_rfl) (specs_cons h specs_nil) (fare_Cond_size.e (fare_Cond_size_n n))) bigN
def fare_numbers.A : Tpl := ⟨[.slot 0 (.one (.d (.int .i64)))], [], 0⟩
def fare_numbers.R : Tpl := ⟨[.slot 2 (.one (.d (.int .i64)))], [], 1⟩
def fare_numbers.S : Spec tab := ⟨127, fare_numbers.A, fare_numbers.R, [2], fun (t : TplT tab fare_numbers.A) => fare_numbers t⟩
def fare_numbers.h : Hint := .s .n (.s (.s .n (.b (.cut ⟨[.slot 4 (.one (.d .bool)), .kr 5 4], [], 129⟩ false [] .n (.c .n (.cut ⟨[.slot 9 (.one (.d .bool)), .kr 10 3], [], 131⟩ false [] .n .n))))) .n)
theorem fare_numbers.e (t : TplT tab (fare_numbers.S).args) : (fare_numbers.S).fn t = Dfn tt [] (fare_numbers.S) (codeOf Tryz.f127) fare_numbers.h t := by kernel_rfl
theorem fare_numbers.H : Good Tryz.prog (fare_numbers.S) := good_of ttok mixed Tryz.func127 (by kernel_rfl) (by kernel_rfl) specs_nil (fare_numbers.e)
def fare_Cond_node.A : Tpl := ⟨[.slot 0 (.dat (.st 1))], [], 0⟩
def fare_Cond_node.R : Tpl := ⟨[.slot 2 (.one (.d (.int .i64)))], [], 1⟩
def fare_Cond_node.S_ (rec_ : S_fare_Cond → Option (Int)) : Spec tab := ⟨104, fare_Cond_node.A, fare_Cond_node.R, [2], fun (t : TplT tab fare_Cond_node.A) => rec_ t⟩
def fare_Cond_node.h : Hint := .s .n (.s (.r [(2, 0)]) (.s (.b (.s (.r [(2, 1)]) (.c .n (.cut ⟨[.slot 15 (.one (.d .bool)), .kr 16 10], [(1, .blk 87 4)], 705⟩ false [] (.r [(2, 1), (7, 1)]) (.c .n (.cut ⟨[.slot 26 (.one (.d .bool)), .kr 27 27], [(1, .blk 87 4)], 707⟩ false [] .n (.c .n (.cut ⟨[.slot 54 (.one (.d .bool)), .kr 55 31], [(1, .blk 87 4)], 709⟩ false [] .n .n)))))))) (.s (.s .n (.rg ⟨[.kr 5 2, .kr 91 6], [(1, .blk 87 4)], 967⟩ true (.b (.s .n (.s (.r [(1, 2)]) .n))))) .n)))
theorem fare_Cond_node.e (rec_ : S_fare_Cond → Option (Int)) (t : TplT tab (fare_Cond_node.S_ rec_).args) : (fare_Cond_node.S_ (fare_Cond_node_step rec_)).fn t = Dfn tt [fare_numbers.S, fare_within.S, fare_Cond_node.S_ rec_] (fare_Cond_node.S_ (fare_Cond_node_step rec_)) (codeOf Tryz.f104) fare_Cond_node.h t := by kernel_rfl
def fare_Cond_node.S : Spec tab := fare_Cond_node.S_ (fare_Cond_node)
theorem fare_Cond_node.H : Good Tryz.prog (fare_Cond_node.S) := good_rec (S := fare_Cond_node.S_) (f := fare_Cond_node_n) (fun t => rfl) (by kernel_rfl) (fun n h => good_of ttok mixed Tryz.func104 (by kernel_rfl) (by kernel_rfl) (specs_cons fare_numbers.H (specs_cons fare_within.H (specs_cons h specs_nil))) (fare_Cond_node.e (fare_Cond_node_n n))) bigN
def fare_Cond_check.A : Tpl := ⟨[.slot 0 (.dat (.st 1))], [], 0⟩
def fare_Cond_check.R : Tpl := ⟨[.slot 2 (.one (.d (.int .i64)))], [], 1⟩
def fare_Cond_check.S : Spec tab := ⟨71, fare_Cond_check.A, fare_Cond_check.R, [2], fun (t : TplT tab fare_Cond_check.A) => fare_Cond_check t⟩
def fare_Cond_check.h : Hint := .s .n (.s (.s (.r [(1, 0)]) (.cut ⟨[.slot 15 (.one (.d .bool)), .kr 10 5], [(1, .blk 87 4)], 577⟩ false [] .n .n)) (.s (.r [(1, 1)]) .n))
theorem fare_Cond_check.e (t : TplT tab (fare_Cond_check.S).args) : (fare_Cond_check.S).fn t = Dfn tt [fare_Cond_size.S, fare_Cond_node.S] (fare_Cond_check.S) (codeOf Tryz.f71) fare_Cond_check.h t := by kernel_rfl
theorem fare_Cond_check.H : Good Tryz.prog (fare_Cond_check.S) := good_of ttok mixed Tryz.func71 (by kernel_rfl) (by kernel_rfl) (specs_cons fare_Cond_size.H (specs_cons fare_Cond_node.H specs_nil)) (fare_Cond_check.e)
def fare_CheckTariff.A : Tpl := ⟨[.slot 0 (.dat (.st 3))], [], 0⟩
def fare_CheckTariff.R : Tpl := ⟨[.slot 2 (.one (.d (.int .i64)))], [], 1⟩
def fare_CheckTariff.S : Spec tab := ⟨35, fare_CheckTariff.A, fare_CheckTariff.R, [2], fun (t : TplT tab fare_CheckTariff.A) => fare_CheckTariff t⟩
def fare_CheckTariff.h : Hint := .s .n (.s (.cut ⟨[.slot 19 (.one (.d .bool)), .kr 9 10], [(1, .blk 25 4)], 129⟩ false [] (.r [(3, 0)]) .n) (.s (.s .n (.rg ⟨[.kr 3 2, .kr 25 39], [(1, .blk 25 4)], 387⟩ true (.b (.s .n (.s (.cut ⟨[.slot 37 (.one (.d .bool)), .kr 28 9], [(1, .blk 25 4), (581, .blk 84 2)], 773⟩ false [] (.r [(2, 0), (7, 0)]) .n) (.cut ⟨[.slot 63 (.one (.d .bool)), .kr 38 25], [(1, .blk 25 4), (581, .blk 84 2)], 775⟩ false [] .n .n)))))) (.s (.s (.r [(2, 0)]) .n) (.s (.s .n (.rg ⟨[.kr 6 3, .kr 74 7, .kr 82 14], [(1, .blk 25 4)], 901⟩ true (.b (.s .n (.s (.s (.r [(2, 1)]) .n) (.s .n (.cut ⟨[.slot 8 (.one (.d (.int .i64))), .kr 82 3], [(1, .blk 25 4), (1032, .blk 89 7)], 1608⟩ false [] .n (.b (.s (.r [(2, 0)]) (.c .n (.s (.r [(3, 0)]) .n))))))))))) .n))))
theorem fare_CheckTariff.e (t : TplT tab (fare_CheckTariff.S).args) : (fare_CheckTariff.S).fn t = Dfn tt [fare_within.S, fare_Cond_check.S] (fare_CheckTariff.S) (codeOf Tryz.f35) fare_CheckTariff.h t := by kernel_rfl
theorem fare_CheckTariff.H : Good Tryz.prog (fare_CheckTariff.S) := good_of ttok mixed Tryz.func35 (by kernel_rfl) (by kernel_rfl) (specs_cons fare_within.H (specs_cons fare_Cond_check.H specs_nil)) (fare_CheckTariff.e)
def fare_checkZones.A : Tpl := ⟨[.slot 0 (.one (.d (.sl (.int .i64)))), .slot 1 (.one (.d .bool))], [], 0⟩
def fare_checkZones.R : Tpl := ⟨[.slot 4 (.one (.d (.int .i64)))], [], 2⟩
def fare_checkZones.S : Spec tab := ⟨39, fare_checkZones.A, fare_checkZones.R, [4], fun (t : TplT tab fare_checkZones.A) => fare_checkZones t.1 t.2⟩
def fare_checkZones.h : Hint := .s .n (.s (.s .n (.rg ⟨[.kr 5 2, .kr 11 29], [], 258⟩ true (.b (.s .n (.s (.s (.r [(1, 0)]) .n) (.cut ⟨[.slot 39 (.one (.d .bool)), .kr 17 22], [], 772⟩ false [] .n .n)))))) .n)
theorem fare_checkZones.e (t : TplT tab (fare_checkZones.S).args) : (fare_checkZones.S).fn t = Dfn tt [fare_within.S] (fare_checkZones.S) (codeOf Tryz.f39) fare_checkZones.h t := by kernel_rfl
theorem fare_checkZones.H : Good Tryz.prog (fare_checkZones.S) := good_of ttok mixed Tryz.func39 (by kernel_rfl) (by kernel_rfl) (specs_cons fare_within.H specs_nil) (fare_checkZones.e)
def fare_CheckTrip.A : Tpl := ⟨[.slot 0 (.dat (.st 4))], [], 0⟩
def fare_CheckTrip.R : Tpl := ⟨[.slot 2 (.one (.d (.int .i64)))], [], 1⟩
def fare_CheckTrip.S : Spec tab := ⟨36, fare_CheckTrip.A, fare_CheckTrip.R, [2], fun (t : TplT tab fare_CheckTrip.A) => fare_CheckTrip t⟩
def fare_CheckTrip.h : Hint := .s .n (.s (.b (.cut ⟨[.slot 3 (.one (.d .bool)), .kr 4 22], [(1, .blk 38 6)], 129⟩ false [] (.r [(2, 0), (7, 0), (13, 0), (19, 0)]) (.c .n (.s (.r [(3, 0)]) .n)))) (.s (.r [(2, 1)]) .n))
theorem fare_CheckTrip.e (t : TplT tab (fare_CheckTrip.S).args) : (fare_CheckTrip.S).fn t = Dfn tt [fare_within.S, fare_checkZones.S] (fare_CheckTrip.S) (codeOf Tryz.f36) fare_CheckTrip.h t := by kernel_rfl
theorem fare_CheckTrip.H : Good Tryz.prog (fare_CheckTrip.S) := good_of ttok mixed Tryz.func36 (by kernel_rfl) (by kernel_rfl) (specs_cons fare_within.H (specs_cons fare_checkZones.H specs_nil)) (fare_CheckTrip.e)
def fare_Tariff_price_1.A : Tpl := ⟨[.slot 0 (.dat (.st 0)), .slot 1 (.one (.d (.opt (.int .i64))))], [], 0⟩
def fare_Tariff_price_1.R : Tpl := ⟨[.slot 3 (.one (.d .bool))], [], 2⟩
def fare_Tariff_price_1.S : Spec tab := ⟨73, fare_Tariff_price_1.A, fare_Tariff_price_1.R, [3], fun (t : TplT tab fare_Tariff_price_1.A) => fare_Tariff_price_1 t.1 t.2⟩
def fare_Tariff_price_1.h : Hint := .n
theorem fare_Tariff_price_1.e (t : TplT tab (fare_Tariff_price_1.S).args) : (fare_Tariff_price_1.S).fn t = Dfn tt [] (fare_Tariff_price_1.S) (codeOf Tryz.f73) fare_Tariff_price_1.h t := by kernel_rfl
theorem fare_Tariff_price_1.H : Good Tryz.prog (fare_Tariff_price_1.S) := good_of ttok mixed Tryz.func73 (by kernel_rfl) (by kernel_rfl) specs_nil (fare_Tariff_price_1.e)
def slices_IndexFunc_fare_Band_fare_Band.A : Tpl := ⟨[.slot 0 (.one (.d (.sl (.st 0)))), .slot 1 (.one (.fn 73 0 1)), .clo 0 0 (.d (.opt (.int .i64)))], [], 1⟩
def slices_IndexFunc_fare_Band_fare_Band.R : Tpl := ⟨[.slot 4 (.one (.d (.int .i64)))], [], 4⟩
def slices_IndexFunc_fare_Band_fare_Band.S : Spec tab := ⟨72, slices_IndexFunc_fare_Band_fare_Band.A, slices_IndexFunc_fare_Band_fare_Band.R, [4], fun (t : TplT tab slices_IndexFunc_fare_Band_fare_Band.A) => slices_IndexFunc_fare_Band_fare_Band t.1 t.2⟩
def slices_IndexFunc_fare_Band_fare_Band.h : Hint := .s .n (.s (.s .n (.rg ⟨[.kr 5 1, .kr 10 7], [], 260⟩ true (.b (.s .n (.s (.r [(5, 0)]) .n))))) .n)
theorem slices_IndexFunc_fare_Band_fare_Band.e (t : TplT tab (slices_IndexFunc_fare_Band_fare_Band.S).args) : (slices_IndexFunc_fare_Band_fare_Band.S).fn t = Dfn tt [fare_Tariff_price_1.S] (slices_IndexFunc_fare_Band_fare_Band.S) (codeOf Tryz.f72) slices_IndexFunc_fare_Band_fare_Band.h t := by kernel_rfl
theorem slices_IndexFunc_fare_Band_fare_Band.H : Good Tryz.prog (slices_IndexFunc_fare_Band_fare_Band.S) := good_of ttok mixed Tryz.func72 (by kernel_rfl) (by kernel_rfl) (specs_cons fare_Tariff_price_1.H specs_nil) (slices_IndexFunc_fare_Band_fare_Band.e)
def fare_Cond_holds_1.A : Tpl := ⟨[.slot 0 (.one (.d (.int .i64))), .slot 1 (.one (.d (.opt (.st 1))))], [], 0⟩
def fare_Cond_holds_1.R : Tpl := ⟨[.slot 3 (.one (.d .bool))], [], 2⟩
def fare_Cond_holds_1.S : Spec tab := ⟨105, fare_Cond_holds_1.A, fare_Cond_holds_1.R, [3], fun (t : TplT tab fare_Cond_holds_1.A) => fare_Cond_holds_1 t.1 t.2⟩
def fare_Cond_holds_1.h : Hint := .s .n (.s (.r [(5, 0)]) .n)
theorem fare_Cond_holds_1.e (t : TplT tab (fare_Cond_holds_1.S).args) : (fare_Cond_holds_1.S).fn t = Dfn tt [fare_within.S] (fare_Cond_holds_1.S) (codeOf Tryz.f105) fare_Cond_holds_1.h t := by kernel_rfl
theorem fare_Cond_holds_1.H : Good Tryz.prog (fare_Cond_holds_1.S) := good_of ttok mixed Tryz.func105 (by kernel_rfl) (by kernel_rfl) (specs_cons fare_within.H specs_nil) (fare_Cond_holds_1.e)
def slices_Index_int_int.A : Tpl := ⟨[.slot 0 (.one (.d (.sl (.int .i64)))), .slot 1 (.one (.d (.int .i64)))], [], 0⟩
def slices_Index_int_int.R : Tpl := ⟨[.slot 4 (.one (.d (.int .i64)))], [], 2⟩
def slices_Index_int_int.S : Spec tab := ⟨67, slices_Index_int_int.A, slices_Index_int_int.R, [4], fun (t : TplT tab slices_Index_int_int.A) => slices_Index_int_int t.1 t.2⟩
def slices_Index_int_int.h : Hint := .s .n (.s (.s .n (.rg ⟨[.kr 5 1, .kr 10 7], [], 258⟩ true .n)) .n)
theorem slices_Index_int_int.e (t : TplT tab (slices_Index_int_int.S).args) : (slices_Index_int_int.S).fn t = Dfn tt [] (slices_Index_int_int.S) (codeOf Tryz.f67) slices_Index_int_int.h t := by kernel_rfl
theorem slices_Index_int_int.H : Good Tryz.prog (slices_Index_int_int.S) := good_of ttok mixed Tryz.func67 (by kernel_rfl) (by kernel_rfl) specs_nil (slices_Index_int_int.e)
def slices_Contains_int_int.A : Tpl := ⟨[.slot 0 (.one (.d (.sl (.int .i64)))), .slot 1 (.one (.d (.int .i64)))], [], 0⟩
def slices_Contains_int_int.R : Tpl := ⟨[.slot 4 (.one (.d .bool))], [], 2⟩
def slices_Contains_int_int.S : Spec tab := ⟨27, slices_Contains_int_int.A, slices_Contains_int_int.R, [4], fun (t : TplT tab slices_Contains_int_int.A) => slices_Contains_int_int t.1 t.2⟩
def slices_Contains_int_int.h : Hint := .s .n (.s (.r [(2, 0)]) .n)
theorem slices_Contains_int_int.e (t : TplT tab (slices_Contains_int_int.S).args) : (slices_Contains_int_int.S).fn t = Dfn tt [slices_Index_int_int.S] (slices_Contains_int_int.S) (codeOf Tryz.f27) slices_Contains_int_int.h t := by kernel_rfl
theorem slices_Contains_int_int.H : Good Tryz.prog (slices_Contains_int_int.S) := good_of ttok mixed Tryz.func27 (by kernel_rfl) (by kernel_rfl) (specs_cons slices_Index_int_int.H specs_nil) (slices_Contains_int_int.e)
def fare_Cond_holds.A : Tpl := ⟨[.slot 0 (.dat (.st 1)), .slot 1 (.dat (.st 4))], [], 0⟩
def fare_Cond_holds.R : Tpl := ⟨[.slot 4 (.one (.d .bool))], [], 2⟩
def fare_Cond_holds.S_ (rec_ : S_fare_Cond → S_fare_Trip → Option (Bool)) : Spec tab := ⟨74, fare_Cond_holds.A, fare_Cond_holds.R, [4], fun (t : TplT tab fare_Cond_holds.A) => rec_ t.1 t.2⟩
def fare_Cond_holds_2.A : Tpl := ⟨[.slot 0 (.dat (.st 1)), .slot 1 (.one (.d (.opt (.st 4))))], [], 0⟩
def fare_Cond_holds_2.R : Tpl := ⟨[.slot 3 (.one (.d .bool))], [], 2⟩
def fare_Cond_holds_2.S (rec_fare_Cond_holds : S_fare_Cond → S_fare_Trip → Option (Bool)) : Spec tab := ⟨107, fare_Cond_holds_2.A, fare_Cond_holds_2.R, [3], fun (t : TplT tab fare_Cond_holds_2.A) => fare_Cond_holds_2 rec_fare_Cond_holds t.1 t.2⟩
def fare_Cond_holds_2.h : Hint := .s .n (.s (.r [(2, 0)]) .n)
theorem fare_Cond_holds_2.e (rec_fare_Cond_holds : S_fare_Cond → S_fare_Trip → Option (Bool)) (t : TplT tab (fare_Cond_holds_2.S rec_fare_Cond_holds).args) : (fare_Cond_holds_2.S rec_fare_Cond_holds).fn t = Dfn tt [fare_Cond_holds.S_ rec_fare_Cond_holds] (fare_Cond_holds_2.S rec_fare_Cond_holds) (codeOf Tryz.f107) fare_Cond_holds_2.h t := by kernel_rfl
theorem fare_Cond_holds_2.H (rec_fare_Cond_holds : S_fare_Cond → S_fare_Trip → Option (Bool)) (h_fare_Cond_holds : Good Tryz.prog (fare_Cond_holds.S_ rec_fare_Cond_holds)) : Good Tryz.prog (fare_Cond_holds_2.S rec_fare_Cond_holds) := good_of ttok mixed Tryz.func107 (by kernel_rfl) (by kernel_rfl) (specs_cons h_fare_Cond_holds specs_nil) (fare_Cond_holds_2.e rec_fare_Cond_holds)
def slices_IndexFunc_fare_Cond_fare_Cond.A : Tpl := ⟨[.slot 0 (.one (.d (.sl (.st 1)))), .slot 1 (.one (.fn 107 0 1)), .clo 0 0 (.d (.opt (.st 4)))], [], 1⟩
def slices_IndexFunc_fare_Cond_fare_Cond.R : Tpl := ⟨[.slot 4 (.one (.d (.int .i64)))], [], 4⟩
def slices_IndexFunc_fare_Cond_fare_Cond.S (rec_fare_Cond_holds : S_fare_Cond → S_fare_Trip → Option (Bool)) : Spec tab := ⟨128, slices_IndexFunc_fare_Cond_fare_Cond.A, slices_IndexFunc_fare_Cond_fare_Cond.R, [4], fun (t : TplT tab slices_IndexFunc_fare_Cond_fare_Cond.A) => slices_IndexFunc_fare_Cond_fare_Cond rec_fare_Cond_holds t.1 t.2⟩
def slices_IndexFunc_fare_Cond_fare_Cond.h : Hint := .s .n (.s (.s .n (.rg ⟨[.kr 5 1, .kr 10 7], [], 260⟩ true (.b (.s .n (.s (.r [(5, 0)]) .n))))) .n)
theorem slices_IndexFunc_fare_Cond_fare_Cond.e (rec_fare_Cond_holds : S_fare_Cond → S_fare_Trip → Option (Bool)) (t : TplT tab (slices_IndexFunc_fare_Cond_fare_Cond.S rec_fare_Cond_holds).args) : (slices_IndexFunc_fare_Cond_fare_Cond.S rec_fare_Cond_holds).fn t = Dfn tt [fare_Cond_holds_2.S rec_fare_Cond_holds] (slices_IndexFunc_fare_Cond_fare_Cond.S rec_fare_Cond_holds) (codeOf Tryz.f128) slices_IndexFunc_fare_Cond_fare_Cond.h t := by kernel_rfl
theorem slices_IndexFunc_fare_Cond_fare_Cond.H (rec_fare_Cond_holds : S_fare_Cond → S_fare_Trip → Option (Bool)) (h_fare_Cond_holds : Good Tryz.prog (fare_Cond_holds.S_ rec_fare_Cond_holds)) : Good Tryz.prog (slices_IndexFunc_fare_Cond_fare_Cond.S rec_fare_Cond_holds) := good_of ttok mixed Tryz.func128 (by kernel_rfl) (by kernel_rfl) (specs_cons (fare_Cond_holds_2.H rec_fare_Cond_holds h_fare_Cond_holds) specs_nil) (slices_IndexFunc_fare_Cond_fare_Cond.e rec_fare_Cond_holds)
def slices_ContainsFunc_fare_Cond_fare_Cond.A : Tpl := ⟨[.slot 0 (.one (.d (.sl (.st 1)))), .slot 1 (.one (.fn 107 0 1)), .clo 0 0 (.d (.opt (.st 4)))], [], 1⟩
def slices_ContainsFunc_fare_Cond_fare_Cond.R : Tpl := ⟨[.slot 4 (.one (.d .bool))], [], 4⟩
def slices_ContainsFunc_fare_Cond_fare_Cond.S (rec_fare_Cond_holds : S_fare_Cond → S_fare_Trip → Option (Bool)) : Spec tab := ⟨106, slices_ContainsFunc_fare_Cond_fare_Cond.A, slices_ContainsFunc_fare_Cond_fare_Cond.R, [4], fun (t : TplT tab slices_ContainsFunc_fare_Cond_fare_Cond.A) => slices_ContainsFunc_fare_Cond_fare_Cond rec_fare_Cond_holds t.1 t.2⟩
def slices_ContainsFunc_fare_Cond_fare_Cond.h : Hint := .s .n (.s (.r [(2, 0)]) .n)
theorem slices_ContainsFunc_fare_Cond_fare_Cond.e (rec_fare_Cond_holds : S_fare_Cond → S_fare_Trip → Option (Bool)) (t : TplT tab (slices_ContainsFunc_fare_Cond_fare_Cond.S rec_fare_Cond_holds).args) : (slices_ContainsFunc_fare_Cond_fare_Cond.S rec_fare_Cond_holds).fn t = Dfn tt [slices_IndexFunc_fare_Cond_fare_Cond.S rec_fare_Cond_holds] (slices_ContainsFunc_fare_Cond_fare_Cond.S rec_fare_Cond_holds) (codeOf Tryz.f106) slices_ContainsFunc_fare_Cond_fare_Cond.h t := by kernel_rfl
theorem slices_ContainsFunc_fare_Cond_fare_Cond.H (rec_fare_Cond_holds : S_fare_Cond → S_fare_Trip → Option (Bool)) (h_fare_Cond_holds : Good Tryz.prog (fare_Cond_holds.S_ rec_fare_Cond_holds)) : Good Tryz.prog (slices_ContainsFunc_fare_Cond_fare_Cond.S rec_fare_Cond_holds) := good_of ttok mixed Tryz.func106 (by kernel_rfl) (by kernel_rfl) (specs_cons (slices_IndexFunc_fare_Cond_fare_Cond.H rec_fare_Cond_holds h_fare_Cond_holds) specs_nil) (slices_ContainsFunc_fare_Cond_fare_Cond.e rec_fare_Cond_holds)
def fare_Cond_holds_3.A : Tpl := ⟨[.slot 0 (.dat (.st 1)), .slot 1 (.one (.d (.opt (.st 4))))], [], 0⟩
def fare_Cond_holds_3.R : Tpl := ⟨[.slot 3 (.one (.d .bool))], [], 2⟩
def fare_Cond_holds_3.S (rec_fare_Cond_holds : S_fare_Cond → S_fare_Trip → Option (Bool)) : Spec tab := ⟨108, fare_Cond_holds_3.A, fare_Cond_holds_3.R, [3], fun (t : TplT tab fare_Cond_holds_3.A) => fare_Cond_holds_3 rec_fare_Cond_holds t.1 t.2⟩
def fare_Cond_holds_3.h : Hint := .s .n (.s (.r [(2, 0)]) .n)
theorem fare_Cond_holds_3.e (rec_fare_Cond_holds : S_fare_Cond → S_fare_Trip → Option (Bool)) (t : TplT tab (fare_Cond_holds_3.S rec_fare_Cond_holds).args) : (fare_Cond_holds_3.S rec_fare_Cond_holds).fn t = Dfn tt [fare_Cond_holds.S_ rec_fare_Cond_holds] (fare_Cond_holds_3.S rec_fare_Cond_holds) (codeOf Tryz.f108) fare_Cond_holds_3.h t := by kernel_rfl
theorem fare_Cond_holds_3.H (rec_fare_Cond_holds : S_fare_Cond → S_fare_Trip → Option (Bool)) (h_fare_Cond_holds : Good Tryz.prog (fare_Cond_holds.S_ rec_fare_Cond_holds)) : Good Tryz.prog (fare_Cond_holds_3.S rec_fare_Cond_holds) := good_of ttok mixed Tryz.func108 (by kernel_rfl) (by kernel_rfl) (specs_cons h_fare_Cond_holds specs_nil) (fare_Cond_holds_3.e rec_fare_Cond_holds)
def slices_IndexFunc_fare_Cond_fare_Cond_v2.A : Tpl := ⟨[.slot 0 (.one (.d (.sl (.st 1)))), .slot 1 (.one (.fn 108 0 1)), .clo 0 0 (.d (.opt (.st 4)))], [], 1⟩
def slices_IndexFunc_fare_Cond_fare_Cond_v2.R : Tpl := ⟨[.slot 4 (.one (.d (.int .i64)))], [], 4⟩
def slices_IndexFunc_fare_Cond_fare_Cond_v2.S (rec_fare_Cond_holds : S_fare_Cond → S_fare_Trip → Option (Bool)) : Spec tab := ⟨128, slices_IndexFunc_fare_Cond_fare_Cond_v2.A, slices_IndexFunc_fare_Cond_fare_Cond_v2.R, [4], fun (t : TplT tab slices_IndexFunc_fare_Cond_fare_Cond_v2.A) => slices_IndexFunc_fare_Cond_fare_Cond_v2 rec_fare_Cond_holds t.1 t.2⟩
def slices_IndexFunc_fare_Cond_fare_Cond_v2.h : Hint := .s .n (.s (.s .n (.rg ⟨[.kr 5 1, .kr 10 7], [], 260⟩ true (.b (.s .n (.s (.r [(5, 0)]) .n))))) .n)
theorem slices_IndexFunc_fare_Cond_fare_Cond_v2.e (rec_fare_Cond_holds : S_fare_Cond → S_fare_Trip → Option (Bool)) (t : TplT tab (slices_IndexFunc_fare_Cond_fare_Cond_v2.S rec_fare_Cond_holds).args) : (slices_IndexFunc_fare_Cond_fare_Cond_v2.S rec_fare_Cond_holds).fn t = Dfn tt [fare_Cond_holds_3.S rec_fare_Cond_holds] (slices_IndexFunc_fare_Cond_fare_Cond_v2.S rec_fare_Cond_holds) (codeOf Tryz.f128) slices_IndexFunc_fare_Cond_fare_Cond_v2.h t := by kernel_rfl
theorem slices_IndexFunc_fare_Cond_fare_Cond_v2.H (rec_fare_Cond_holds : S_fare_Cond → S_fare_Trip → Option (Bool)) (h_fare_Cond_holds : Good Tryz.prog (fare_Cond_holds.S_ rec_fare_Cond_holds)) : Good Tryz.prog (slices_IndexFunc_fare_Cond_fare_Cond_v2.S rec_fare_Cond_holds) := good_of ttok mixed Tryz.func128 (by kernel_rfl) (by kernel_rfl) (specs_cons (fare_Cond_holds_3.H rec_fare_Cond_holds h_fare_Cond_holds) specs_nil) (slices_IndexFunc_fare_Cond_fare_Cond_v2.e rec_fare_Cond_holds)
def slices_ContainsFunc_fare_Cond_fare_Cond_v2.A : Tpl := ⟨[.slot 0 (.one (.d (.sl (.st 1)))), .slot 1 (.one (.fn 108 0 1)), .clo 0 0 (.d (.opt (.st 4)))], [], 1⟩
def slices_ContainsFunc_fare_Cond_fare_Cond_v2.R : Tpl := ⟨[.slot 4 (.one (.d .bool))], [], 4⟩
def slices_ContainsFunc_fare_Cond_fare_Cond_v2.S (rec_fare_Cond_holds : S_fare_Cond → S_fare_Trip → Option (Bool)) : Spec tab := ⟨106, slices_ContainsFunc_fare_Cond_fare_Cond_v2.A, slices_ContainsFunc_fare_Cond_fare_Cond_v2.R, [4], fun (t : TplT tab slices_ContainsFunc_fare_Cond_fare_Cond_v2.A) => slices_ContainsFunc_fare_Cond_fare_Cond_v2 rec_fare_Cond_holds t.1 t.2⟩
def slices_ContainsFunc_fare_Cond_fare_Cond_v2.h : Hint := .s .n (.s (.r [(2, 0)]) .n)
theorem slices_ContainsFunc_fare_Cond_fare_Cond_v2.e (rec_fare_Cond_holds : S_fare_Cond → S_fare_Trip → Option (Bool)) (t : TplT tab (slices_ContainsFunc_fare_Cond_fare_Cond_v2.S rec_fare_Cond_holds).args) : (slices_ContainsFunc_fare_Cond_fare_Cond_v2.S rec_fare_Cond_holds).fn t = Dfn tt [slices_IndexFunc_fare_Cond_fare_Cond_v2.S rec_fare_Cond_holds] (slices_ContainsFunc_fare_Cond_fare_Cond_v2.S rec_fare_Cond_holds) (codeOf Tryz.f106) slices_ContainsFunc_fare_Cond_fare_Cond_v2.h t := by kernel_rfl
theorem slices_ContainsFunc_fare_Cond_fare_Cond_v2.H (rec_fare_Cond_holds : S_fare_Cond → S_fare_Trip → Option (Bool)) (h_fare_Cond_holds : Good Tryz.prog (fare_Cond_holds.S_ rec_fare_Cond_holds)) : Good Tryz.prog (slices_ContainsFunc_fare_Cond_fare_Cond_v2.S rec_fare_Cond_holds) := good_of ttok mixed Tryz.func106 (by kernel_rfl) (by kernel_rfl) (specs_cons (slices_IndexFunc_fare_Cond_fare_Cond_v2.H rec_fare_Cond_holds h_fare_Cond_holds) specs_nil) (slices_ContainsFunc_fare_Cond_fare_Cond_v2.e rec_fare_Cond_holds)
def fare_Cond_holds.h : Hint := .s .n (.s .n (.s (.s .n (.b (.s .n (.c .n (.s .n (.c (.s (.r [(3, 0)]) .n) (.s .n (.c (.s (.r [(3, 0)]) .n) (.s .n (.c (.s (.r [(3, 0)]) .n) (.s .n (.c (.s (.r [(4, 0)]) .n) (.s .n (.c (.s (.r [(4, 1)]) .n) (.s .n (.c .n (.s .n (.c .n (.s .n (.c (.s (.r [(5, 2)]) .n) (.s .n (.c (.s (.r [(3, 3)]) .n) (.s .n (.c (.s (.r [(3, 4)]) .n) .n)))))))))))))))))))))))) .n))
theorem fare_Cond_holds.e (rec_ : S_fare_Cond → S_fare_Trip → Option (Bool)) (t : TplT tab (fare_Cond_holds.S_ rec_).args) : (fare_Cond_holds.S_ (fare_Cond_holds_step rec_)).fn t = Dfn tt [fare_Cond_holds_1.S, slices_Contains_int_int.S, fare_Cond_holds.S_ rec_, slices_ContainsFunc_fare_Cond_fare_Cond.S rec_, slices_ContainsFunc_fare_Cond_fare_Cond_v2.S rec_] (fare_Cond_holds.S_ (fare_Cond_holds_step rec_)) (codeOf Tryz.f74) fare_Cond_holds.h t := by kernel_rfl
def fare_Cond_holds.S : Spec tab := fare_Cond_holds.S_ (fare_Cond_holds)
theorem fare_Cond_holds.H : Good Tryz.prog (fare_Cond_holds.S) := good_rec (S := fare_Cond_holds.S_) (f := fare_Cond_holds_n) (fun t => rfl) (by kernel_rfl) (fun n h => good_of ttok mixed Tryz.func74 (by kernel_rfl) (by kernel_rfl) (specs_cons fare_Cond_holds_1.H (specs_cons slices_Contains_int_int.H (specs_cons h (specs_cons (slices_ContainsFunc_fare_Cond_fare_Cond.H (fare_Cond_holds_n n) h) (specs_cons (slices_ContainsFunc_fare_Cond_fare_Cond_v2.H (fare_Cond_holds_n n) h) specs_nil))))) (fare_Cond_holds.e (fare_Cond_holds_n n))) bigN
def fare_Rule_change.A : Tpl := ⟨[.slot 0 (.dat (.st 2)), .slot 1 (.one (.d (.int .i64)))], [], 0⟩
def fare_Rule_change.R : Tpl := ⟨[.slot 4 (.one (.d (.int .i64)))], [], 2⟩
def fare_Rule_change.S : Spec tab := ⟨75, fare_Rule_change.A, fare_Rule_change.R, [4], fun (t : TplT tab fare_Rule_change.A) => fare_Rule_change t.1 t.2⟩
def fare_Rule_change.h : Hint := .n
theorem fare_Rule_change.e (t : TplT tab (fare_Rule_change.S).args) : (fare_Rule_change.S).fn t = Dfn tt [] (fare_Rule_change.S) (codeOf Tryz.f75) fare_Rule_change.h t := by kernel_rfl
theorem fare_Rule_change.H : Good Tryz.prog (fare_Rule_change.S) := good_of ttok mixed Tryz.func75 (by kernel_rfl) (by kernel_rfl) specs_nil (fare_Rule_change.e)
def fare_Tariff_price.A : Tpl := ⟨[.slot 0 (.dat (.st 3)), .slot 1 (.dat (.st 4))], [], 0⟩
def fare_Tariff_price.R : Tpl := ⟨[.slot 4 (.one (.d (.int .i64))), .slot 5 (.one (.own 2 (.int .i64))), .arr 2 (.int .i64) 0], [(2, .arr (.int .i64))], 3⟩
def fare_Tariff_price.S : Spec tab := ⟨37, fare_Tariff_price.A, fare_Tariff_price.R, [4, 5], fun (t : TplT tab fare_Tariff_price.A) => fare_Tariff_price t.1 t.2⟩
def fare_Tariff_price.h : Hint := .s .n (.s .n (.cut ⟨[.cell 450 0 (.d (.int .i64)), .kr 15 4], [(2, .blk 25 4), (66, .blk 38 6), (450, .blk 3 1)], 578⟩ false [] .n (.s (.r [(3, 0)]) (.cut ⟨[.slot 7 (.one (.d (.int .i64))), .kr 23 6], [(2, .blk 25 4), (66, .blk 38 6), (450, .blk 3 1)], 900⟩ false [] .n (.s .n (.s .n (.s (.s .n (.rg ⟨[.slot 8 (.one (.d (.int .i64))), .slot 9 (.one (.own 1670 (.int .i64))), .arr 1670 (.int .i64) 0, .kr 10 2, .kr 40 17], [(2, .blk 25 4), (66, .blk 38 6), (450, .blk 3 1), (1670, .arr (.int .i64))], 1671⟩ false (.b (.s .n (.s (.s (.r [(3, 1)]) .n) (.s .n (.s (.r [(2, 2)]) .n))))))) .n)))))))
theorem fare_Tariff_price.e (t : TplT tab (fare_Tariff_price.S).args) : (fare_Tariff_price.S).fn t = Dfn tt [slices_IndexFunc_fare_Band_fare_Band.S, fare_Cond_holds.S, fare_Rule_change.S] (fare_Tariff_price.S) (codeOf Tryz.f37) fare_Tariff_price.h t := by kernel_rfl
theorem fare_Tariff_price.H : Good Tryz.prog (fare_Tariff_price.S) := good_of ttok mixed Tryz.func37 (by kernel_rfl) (by kernel_rfl) (specs_cons slices_IndexFunc_fare_Band_fare_Band.H (specs_cons fare_Cond_holds.H (specs_cons fare_Rule_change.H specs_nil))) (fare_Tariff_price.e)
def fare_Price.A : Tpl := ⟨[.slot 0 (.agg [.d .bool, .d (.sl (.st 0)), .d (.int .i64), .d (.sl (.st 2))]), .slot 1 (.agg [.d (.int .i64), .d (.int .i64), .d (.int .i64), .d (.int .i64), .d .bool, .d (.sl (.int .i64))])], [], 0⟩
def fare_Price.R : Tpl := ⟨[.slot 4 (.one (.d (.int .i64))), .slot 5 (.one (.own 2 (.int .i64))), .slot 6 (.one (.d (.int .i64))), .arr 2 (.int .i64) 0], [(2, .arr (.int .i64))], 3⟩
def fare_Price.S : Spec tab := ⟨12, fare_Price.A, fare_Price.R, [4, 5, 6], fun (t : TplT tab fare_Price.A) => fare_Price t.1 t.2.1 t.2.2.1 t.2.2.2.1 t.2.2.2.2.1 t.2.2.2.2.2.1 t.2.2.2.2.2.2.1 t.2.2.2.2.2.2.2.1 t.2.2.2.2.2.2.2.2.1 t.2.2.2.2.2.2.2.2.2⟩
def fare_Price.h : Hint := .s .n (.s (.s (.r [(1, 0)]) .n) (.s (.s (.r [(1, 1)]) .n) (.s (.r [(2, 2)]) .n)))
theorem fare_Price.e (t : TplT tab (fare_Price.S).args) : (fare_Price.S).fn t = Dfn tt [fare_CheckTariff.S, fare_CheckTrip.S, fare_Tariff_price.S] (fare_Price.S) (codeOf Tryz.f12) fare_Price.h t := by kernel_rfl
theorem fare_Price.H : Good Tryz.prog (fare_Price.S) := good_of ttok mixed Tryz.func12 (by kernel_rfl) (by kernel_rfl) (specs_cons fare_CheckTariff.H (specs_cons fare_CheckTrip.H (specs_cons fare_Tariff_price.H specs_nil))) (fare_Price.e)
def fishkeep2_fares.A : Tpl := ⟨[], [], 0⟩
def fishkeep2_fares.R : Tpl := ⟨[.slot 0 (.one (.d .bool))], [], 0⟩
def fishkeep2_fares.S : Spec tab := ⟨9, fishkeep2_fares.A, fishkeep2_fares.R, [0], fun _ => fishkeep2_fares⟩
def fishkeep2_fares.h : Hint := .s .n (.s .n (.s (.r [(3, 0)]) (.cut ⟨[.slot 0 (.one (.d .bool)), .kr 19 6], [(448, .blk 25 4), (770, .arr (.int .i64))], 1280⟩ false [] .n .n)))
theorem fishkeep2_fares.e (t : TplT tab (fishkeep2_fares.S).args) : (fishkeep2_fares.S).fn t = Dfn tt [fare_Price.S] (fishkeep2_fares.S) (codeOf Tryz.f9) fishkeep2_fares.h t := by kernel_rfl
theorem fishkeep2_fares.H : Good Tryz.prog (fishkeep2_fares.S) := good_of ttok mixed Tryz.func9 (by kernel_rfl) (by kernel_rfl) (specs_cons fare_Price.H specs_nil) (fishkeep2_fares.e)
def fishref2_within.A : Tpl := ⟨[.slot 0 (.one (.d (.int .i64))), .slot 1 (.one (.d (.int .i64))), .slot 2 (.one (.d (.int .i64)))], [], 0⟩
def fishref2_within.R : Tpl := ⟨[.slot 6 (.one (.d .bool))], [], 3⟩
def fishref2_within.S : Spec tab := ⟨34, fishref2_within.A, fishref2_within.R, [6], fun (t : TplT tab fishref2_within.A) => fishref2_within t.1 t.2.1 t.2.2⟩
def fishref2_within.h : Hint := .s .n (.cut ⟨[.slot 6 (.one (.d .bool)), .kr 7 8], [], 67⟩ false [] .n .n)
theorem fishref2_within.e (t : TplT tab (fishref2_within.S).args) : (fishref2_within.S).fn t = Dfn tt [] (fishref2_within.S) (codeOf Tryz.f34) fishref2_within.h t := by kernel_rfl
theorem fishref2_within.H : Good Tryz.prog (fishref2_within.S) := good_of ttok mixed Tryz.func34 (by kernel_rfl) (by kernel_rfl) specs_nil (fishref2_within.e)
def fishref2_shape.A : Tpl := ⟨[.slot 0 (.dat (.st 1)), .slot 1 (.one (.ptr 0 0)), .blk 0 3 1, .cell 0 0 (.d (.int .i64))], [(0, .blk 3 1)], 1⟩
def fishref2_shape.R : Tpl := ⟨[.slot 4 (.one (.d (.int .i64))), .cell 0 0 (.d (.int .i64))], [(0, .blk 3 1)], 5⟩
def fishref2_shape.S_ (rec_ : S_fare_Cond → Int → Option (Int × Int)) : Spec tab := ⟨101, fishref2_shape.A, fishref2_shape.R, [4], fun (t : TplT tab fishref2_shape.A) => rec_ t.1 t.2⟩
def fishref2_shape.h : Hint := .s .n (.s .n (.s .n (.s (.s .n (.rg ⟨[.slot 4 (.one (.d (.int .i64))), .cell 0 0 (.d (.int .i64)), .kr 6 1, .kr 21 11], [(0, .blk 3 1), (5, .blk 87 4)], 1029⟩ false (.b (.s .n (.s (.r [(3, 0)]) .n))))) .n)))
theorem fishref2_shape.e (rec_ : S_fare_Cond → Int → Option (Int × Int)) (t : TplT tab (fishref2_shape.S_ rec_).args) : (fishref2_shape.S_ (fishref2_shape_step rec_)).fn t = Dfn tt [fishref2_shape.S_ rec_] (fishref2_shape.S_ (fishref2_shape_step rec_)) (codeOf Tryz.f101) fishref2_shape.h t := by kernel_rfl
def fishref2_shape.S : Spec tab := fishref2_shape.S_ (fishref2_shape)
theorem fishref2_shape.H : Good Tryz.prog (fishref2_shape.S) := good_rec (S := fishref2_shape.S_) (f := fishref2_shape_n) (fun t => rfl) (by kernel_rfl) (fun n h => good_of ttok mixed Tryz.func101 (by kernel_rfl) (by kernel_rfl) (specs_cons h specs_nil) (fishref2_shape.e (fishref2_shape_n n))) bigN
def fishref2_numbersOf.A : Tpl := ⟨[.slot 0 (.one (.d (.int .i64)))], [], 0⟩
def fishref2_numbersOf.R : Tpl := ⟨[.slot 2 (.one (.d (.int .i64)))], [], 1⟩
def fishref2_numbersOf.S : Spec tab := ⟨126, fishref2_numbersOf.A, fishref2_numbersOf.R, [2], fun (t : TplT tab fishref2_numbersOf.A) => fishref2_numbersOf t⟩
def fishref2_numbersOf.h : Hint := .s .n (.s (.s .n (.b (.cut ⟨[.slot 4 (.one (.d .bool)), .kr 5 4], [], 129⟩ false [] .n (.c .n (.cut ⟨[.slot 9 (.one (.d .bool)), .kr 10 3], [], 131⟩ false [] .n .n))))) .n)
theorem fishref2_numbersOf.e (t : TplT tab (fishref2_numbersOf.S).args) : (fishref2_numbersOf.S).fn t = Dfn tt [] (fishref2_numbersOf.S) (codeOf Tryz.f126) fishref2_numbersOf.h t := by kernel_rfl
theorem fishref2_numbersOf.H : Good Tryz.prog (fishref2_numbersOf.S) := good_of ttok mixed Tryz.func126 (by kernel_rfl) (by kernel_rfl) specs_nil (fishref2_numbersOf.e)
def fishref2_nodeFault.A : Tpl := ⟨[.slot 0 (.dat (.st 1))], [], 0⟩
def fishref2_nodeFault.R : Tpl := ⟨[.slot 2 (.one (.d (.int .i64)))], [], 1⟩
def fishref2_nodeFault.S_ (rec_ : S_fare_Cond → Option (Int)) : Spec tab := ⟨102, fishref2_nodeFault.A, fishref2_nodeFault.R, [2], fun (t : TplT tab fishref2_nodeFault.A) => rec_ t⟩
def fishref2_nodeFault.h : Hint := .s .n (.s (.s (.r [(2, 0)]) .n) (.s (.cut ⟨[.slot 21 (.one (.d .bool)), .kr 12 9], [(1, .blk 87 4)], 385⟩ false [] (.r [(2, 0), (7, 0)]) .n) (.s (.r [(2, 1)]) (.s (.cut ⟨[.slot 51 (.one (.d .bool)), .kr 25 26], [(1, .blk 87 4)], 643⟩ false [] .n .n) (.s .n (.cut ⟨[.kr 55 13], [(1, .blk 87 4)], 901⟩ true [] (.s .n (.b (.s .n (.c .n (.cut ⟨[.slot 63 (.one (.d .bool)), .kr 64 2], [(1, .blk 87 4)], 1157⟩ false [] .n .n))))) (.s (.s .n (.rg ⟨[.kr 6 2, .kr 73 6], [(1, .blk 87 4)], 1158⟩ true (.b (.s .n (.s (.r [(1, 2)]) .n))))) .n)))))))
theorem fishref2_nodeFault.e (rec_ : S_fare_Cond → Option (Int)) (t : TplT tab (fishref2_nodeFault.S_ rec_).args) : (fishref2_nodeFault.S_ (fishref2_nodeFault_step rec_)).fn t = Dfn tt [fishref2_within.S, fishref2_numbersOf.S, fishref2_nodeFault.S_ rec_] (fishref2_nodeFault.S_ (fishref2_nodeFault_step rec_)) (codeOf Tryz.f102) fishref2_nodeFault.h t := by kernel_rfl
def fishref2_nodeFault.S : Spec tab := fishref2_nodeFault.S_ (fishref2_nodeFault)
theorem fishref2_nodeFault.H : Good Tryz.prog (fishref2_nodeFault.S) := good_rec (S := fishref2_nodeFault.S_) (f := fishref2_nodeFault_n) (fun t => rfl) (by kernel_rfl) (fun n h => good_of ttok mixed Tryz.func102 (by kernel_rfl) (by kernel_rfl) (specs_cons fishref2_within.H (specs_cons fishref2_numbersOf.H (specs_cons h specs_nil))) (fishref2_nodeFault.e (fishref2_nodeFault_n n))) bigN
def fishref2_CondFault.A : Tpl := ⟨[.slot 0 (.dat (.st 1))], [], 0⟩
def fishref2_CondFault.R : Tpl := ⟨[.slot 2 (.one (.d (.int .i64)))], [], 1⟩
def fishref2_CondFault.S : Spec tab := ⟨70, fishref2_CondFault.A, fishref2_CondFault.R, [2], fun (t : TplT tab fishref2_CondFault.A) => fishref2_CondFault t⟩
def fishref2_CondFault.h : Hint := .s .n (.s .n (.s (.s (.r [(1, 0)]) (.cut ⟨[.slot 12 (.one (.d .bool)), .kr 7 5], [(1, .blk 87 4), (129, .blk 3 1)], 449⟩ false [] .n .n)) (.s (.r [(1, 1)]) .n)))
theorem fishref2_CondFault.e (t : TplT tab (fishref2_CondFault.S).args) : (fishref2_CondFault.S).fn t = Dfn tt [fishref2_shape.S, fishref2_nodeFault.S] (fishref2_CondFault.S) (codeOf Tryz.f70) fishref2_CondFault.h t := by kernel_rfl
theorem fishref2_CondFault.H : Good Tryz.prog (fishref2_CondFault.S) := good_of ttok mixed Tryz.func70 (by kernel_rfl) (by kernel_rfl) (specs_cons fishref2_shape.H (specs_cons fishref2_nodeFault.H specs_nil)) (fishref2_CondFault.e)
def fishref2_TariffFault.A : Tpl := ⟨[.slot 0 (.dat (.st 3))], [], 0⟩
def fishref2_TariffFault.R : Tpl := ⟨[.slot 2 (.one (.d (.int .i64)))], [], 1⟩
def fishref2_TariffFault.S : Spec tab := ⟨32, fishref2_TariffFault.A, fishref2_TariffFault.R, [2], fun (t : TplT tab fishref2_TariffFault.A) => fishref2_TariffFault t⟩
def fishref2_TariffFault.h : Hint := .s .n (.s (.cut ⟨[.slot 19 (.one (.d .bool)), .kr 9 10], [(1, .blk 25 4)], 129⟩ false [] (.r [(3, 0)]) .n) (.s (.s .n (.rg ⟨[.kr 3 2, .kr 25 39], [(1, .blk 25 4)], 387⟩ true (.b (.s .n (.s (.cut ⟨[.slot 37 (.one (.d .bool)), .kr 28 9], [(1, .blk 25 4), (581, .blk 84 2)], 773⟩ false [] (.r [(2, 0), (7, 0)]) .n) (.cut ⟨[.slot 63 (.one (.d .bool)), .kr 38 25], [(1, .blk 25 4), (581, .blk 84 2)], 775⟩ false [] .n .n)))))) (.s (.s (.r [(2, 0)]) .n) (.s (.s .n (.rg ⟨[.kr 6 3, .kr 74 7, .kr 82 12], [(1, .blk 25 4)], 901⟩ true (.b (.s .n (.s (.s (.r [(2, 1)]) .n) (.s (.s (.r [(2, 0)]) .n) (.s .n (.cut ⟨[.slot 8 (.one (.d (.int .i64))), .kr 86 3], [(1, .blk 25 4), (1032, .blk 89 7)], 1864⟩ false [] .n (.s (.r [(3, 0)]) .n))))))))) .n))))
theorem fishref2_TariffFault.e (t : TplT tab (fishref2_TariffFault.S).args) : (fishref2_TariffFault.S).fn t = Dfn tt [fishref2_within.S, fishref2_CondFault.S] (fishref2_TariffFault.S) (codeOf Tryz.f32) fishref2_TariffFault.h t := by kernel_rfl
theorem fishref2_TariffFault.H : Good Tryz.prog (fishref2_TariffFault.S) := good_of ttok mixed Tryz.func32 (by kernel_rfl) (by kernel_rfl) (specs_cons fishref2_within.H (specs_cons fishref2_CondFault.H specs_nil)) (fishref2_TariffFault.e)
def fishref2_TripFault.A : Tpl := ⟨[.slot 0 (.dat (.st 4))], [], 0⟩
def fishref2_TripFault.R : Tpl := ⟨[.slot 2 (.one (.d (.int .i64)))], [], 1⟩
def fishref2_TripFault.S : Spec tab := ⟨33, fishref2_TripFault.A, fishref2_TripFault.R, [2], fun (t : TplT tab fishref2_TripFault.A) => fishref2_TripFault t⟩
def fishref2_TripFault.h : Hint := .s .n (.s (.cut ⟨[.slot 26 (.one (.d .bool)), .kr 5 21], [(1, .blk 38 6)], 129⟩ false [] (.r [(2, 0), (7, 0), (13, 0), (19, 0)]) .n) (.s (.s (.r [(3, 0)]) .n) (.s (.s .n (.rg ⟨[.kr 3 2, .kr 37 18], [(1, .blk 38 6)], 707⟩ true (.b (.s .n (.s (.s (.r [(1, 0)]) .n) (.cut ⟨[.slot 54 (.one (.d .bool)), .kr 43 11], [(1, .blk 38 6)], 1221⟩ false [] .n .n)))))) .n)))
theorem fishref2_TripFault.e (t : TplT tab (fishref2_TripFault.S).args) : (fishref2_TripFault.S).fn t = Dfn tt [fishref2_within.S] (fishref2_TripFault.S) (codeOf Tryz.f33) fishref2_TripFault.h t := by kernel_rfl
theorem fishref2_TripFault.H : Good Tryz.prog (fishref2_TripFault.S) := good_of ttok mixed Tryz.func33 (by kernel_rfl) (by kernel_rfl) (specs_cons fishref2_within.H specs_nil) (fishref2_TripFault.e)
def fishref2_CheapestFault.A : Tpl := ⟨[.slot 0 (.dat (.st 3)), .slot 1 (.one (.d (.sl (.st 4)))), .slot 2 (.one (.d (.sl (.st 5))))], [], 0⟩
def fishref2_CheapestFault.R : Tpl := ⟨[.slot 6 (.one (.d (.int .i64)))], [], 3⟩
def fishref2_CheapestFault.S : Spec tab := ⟨10, fishref2_CheapestFault.A, fishref2_CheapestFault.R, [6], fun (t : TplT tab fishref2_CheapestFault.A) => fishref2_CheapestFault t.1 t.2.1 t.2.2⟩
def fishref2_CheapestFault.h : Hint := .s .n (.s (.s (.r [(1, 0)]) .n) (.s (.cut ⟨[.slot 27 (.one (.d .bool)), .kr 20 7], [(3, .blk 25 4)], 451⟩ false [] .n .n) (.s (.s .n (.rg ⟨[.kr 9 2, .kr 32 6], [(3, .blk 25 4)], 645⟩ true (.b (.s .n (.s (.r [(1, 1)]) .n))))) (.s (.s .n (.rg ⟨[.kr 12 3, .kr 44 36], [(3, .blk 25 4)], 839⟩ true (.b (.s .n (.s (.cut ⟨[.slot 55 (.one (.d .bool)), .kr 46 9], [(3, .blk 25 4), (969, .blk 29 3)], 1097⟩ false [] (.r [(2, 2), (7, 2)]) .n) (.s .n (.rg ⟨[.kr 13 2, .kr 61 18], [(3, .blk 25 4), (969, .blk 29 3)], 1355⟩ true (.b (.s .n (.s (.s (.r [(1, 2)]) .n) (.cut ⟨[.slot 78 (.one (.d .bool)), .kr 67 11], [(3, .blk 25 4), (969, .blk 29 3)], 1869⟩ false [] .n .n))))))))))) .n))))
theorem fishref2_CheapestFault.e (t : TplT tab (fishref2_CheapestFault.S).args) : (fishref2_CheapestFault.S).fn t = Dfn tt [fishref2_TariffFault.S, fishref2_TripFault.S, fishref2_within.S] (fishref2_CheapestFault.S) (codeOf Tryz.f10) fishref2_CheapestFault.h t := by kernel_rfl
theorem fishref2_CheapestFault.H : Good Tryz.prog (fishref2_CheapestFault.S) := good_of ttok mixed Tryz.func10 (by kernel_rfl) (by kernel_rfl) (specs_cons fishref2_TariffFault.H (specs_cons fishref2_TripFault.H (specs_cons fishref2_within.H specs_nil))) (fishref2_CheapestFault.e)
def fare_Pass_covers_1.A : Tpl := ⟨[.slot 0 (.one (.d (.int .i64))), .slot 1 (.one (.d (.opt (.st 5))))], [], 0⟩
def fare_Pass_covers_1.R : Tpl := ⟨[.slot 3 (.one (.d .bool))], [], 2⟩
def fare_Pass_covers_1.S : Spec tab := ⟨77, fare_Pass_covers_1.A, fare_Pass_covers_1.R, [3], fun (t : TplT tab fare_Pass_covers_1.A) => fare_Pass_covers_1 t.1 t.2⟩
def fare_Pass_covers_1.h : Hint := .s .n (.s (.r [(3, 0)]) .n)
theorem fare_Pass_covers_1.e (t : TplT tab (fare_Pass_covers_1.S).args) : (fare_Pass_covers_1.S).fn t = Dfn tt [slices_Contains_int_int.S] (fare_Pass_covers_1.S) (codeOf Tryz.f77) fare_Pass_covers_1.h t := by kernel_rfl
theorem fare_Pass_covers_1.H : Good Tryz.prog (fare_Pass_covers_1.S) := good_of ttok mixed Tryz.func77 (by kernel_rfl) (by kernel_rfl) (specs_cons slices_Contains_int_int.H specs_nil) (fare_Pass_covers_1.e)
def slices_IndexFunc_int_int.A : Tpl := ⟨[.slot 0 (.one (.d (.sl (.int .i64)))), .slot 1 (.one (.fn 77 0 1)), .clo 0 0 (.d (.opt (.st 5)))], [], 1⟩
def slices_IndexFunc_int_int.R : Tpl := ⟨[.slot 4 (.one (.d (.int .i64)))], [], 4⟩
def slices_IndexFunc_int_int.S : Spec tab := ⟨62, slices_IndexFunc_int_int.A, slices_IndexFunc_int_int.R, [4], fun (t : TplT tab slices_IndexFunc_int_int.A) => slices_IndexFunc_int_int t.1 t.2⟩
def slices_IndexFunc_int_int.h : Hint := .s .n (.s (.s .n (.rg ⟨[.kr 5 1, .kr 10 7], [], 260⟩ true (.b (.s .n (.s (.r [(5, 0)]) .n))))) .n)
theorem slices_IndexFunc_int_int.e (t : TplT tab (slices_IndexFunc_int_int.S).args) : (slices_IndexFunc_int_int.S).fn t = Dfn tt [fare_Pass_covers_1.S] (slices_IndexFunc_int_int.S) (codeOf Tryz.f62) slices_IndexFunc_int_int.h t := by kernel_rfl
theorem slices_IndexFunc_int_int.H : Good Tryz.prog (slices_IndexFunc_int_int.S) := good_of ttok mixed Tryz.func62 (by kernel_rfl) (by kernel_rfl) (specs_cons fare_Pass_covers_1.H specs_nil) (slices_IndexFunc_int_int.e)
def slices_ContainsFunc_int_int.A : Tpl := ⟨[.slot 0 (.one (.d (.sl (.int .i64)))), .slot 1 (.one (.fn 77 0 1)), .clo 0 0 (.d (.opt (.st 5)))], [], 1⟩
def slices_ContainsFunc_int_int.R : Tpl := ⟨[.slot 4 (.one (.d .bool))], [], 4⟩
def slices_ContainsFunc_int_int.S : Spec tab := ⟨29, slices_ContainsFunc_int_int.A, slices_ContainsFunc_int_int.R, [4], fun (t : TplT tab slices_ContainsFunc_int_int.A) => slices_ContainsFunc_int_int t.1 t.2⟩
def slices_ContainsFunc_int_int.h : Hint := .s .n (.s (.r [(2, 0)]) .n)
theorem slices_ContainsFunc_int_int.e (t : TplT tab (slices_ContainsFunc_int_int.S).args) : (slices_ContainsFunc_int_int.S).fn t = Dfn tt [slices_IndexFunc_int_int.S] (slices_ContainsFunc_int_int.S) (codeOf Tryz.f29) slices_ContainsFunc_int_int.h t := by kernel_rfl
theorem slices_ContainsFunc_int_int.H : Good Tryz.prog (slices_ContainsFunc_int_int.S) := good_of ttok mixed Tryz.func29 (by kernel_rfl) (by kernel_rfl) (specs_cons slices_IndexFunc_int_int.H specs_nil) (slices_ContainsFunc_int_int.e)
def fare_Pass_covers.A : Tpl := ⟨[.slot 0 (.dat (.st 5)), .slot 1 (.one (.d (.int .i64))), .slot 2 (.dat (.st 4))], [], 0⟩
def fare_Pass_covers.R : Tpl := ⟨[.slot 6 (.one (.d .bool))], [], 3⟩
def fare_Pass_covers.S : Spec tab := ⟨42, fare_Pass_covers.A, fare_Pass_covers.R, [6], fun (t : TplT tab fare_Pass_covers.A) => fare_Pass_covers t.1 t.2.1 t.2.2⟩
def fare_Pass_covers.h : Hint := .s .n (.cut ⟨[.slot 6 (.one (.d .bool)), .kr 7 16], [(3, .blk 29 3), (67, .blk 38 6)], 195⟩ false [] (.r [(8, 0), (13, 1)]) .n)
theorem fare_Pass_covers.e (t : TplT tab (fare_Pass_covers.S).args) : (fare_Pass_covers.S).fn t = Dfn tt [fare_within.S, slices_ContainsFunc_int_int.S] (fare_Pass_covers.S) (codeOf Tryz.f42) fare_Pass_covers.h t := by kernel_rfl
theorem fare_Pass_covers.H : Good Tryz.prog (fare_Pass_covers.S) := good_of ttok mixed Tryz.func42 (by kernel_rfl) (by kernel_rfl) (specs_cons fare_within.H (specs_cons slices_ContainsFunc_int_int.H specs_nil)) (fare_Pass_covers.e)
def fare_Cheapest_1.A : Tpl := ⟨[.slot 0 (.dat (.st 6)), .slot 1 (.one (.d (.opt (.sl (.st 5))))), .slot 2 (.one (.d (.opt (.st 4))))], [], 0⟩
def fare_Cheapest_1.R : Tpl := ⟨[.slot 4 (.one (.d .bool))], [], 3⟩
def fare_Cheapest_1.S : Spec tab := ⟨41, fare_Cheapest_1.A, fare_Cheapest_1.R, [4], fun (t : TplT tab fare_Cheapest_1.A) => fare_Cheapest_1 t.1 t.2.1 t.2.2⟩
def fare_Cheapest_1.h : Hint := .s .n (.s (.r [(8, 0)]) .n)
theorem fare_Cheapest_1.e (t : TplT tab (fare_Cheapest_1.S).args) : (fare_Cheapest_1.S).fn t = Dfn tt [fare_Pass_covers.S] (fare_Cheapest_1.S) (codeOf Tryz.f41) fare_Cheapest_1.h t := by kernel_rfl
theorem fare_Cheapest_1.H : Good Tryz.prog (fare_Cheapest_1.S) := good_of ttok mixed Tryz.func41 (by kernel_rfl) (by kernel_rfl) (specs_cons fare_Pass_covers.H specs_nil) (fare_Cheapest_1.e)
def slices_IndexFunc_fare_Buy_fare_Buy.A : Tpl := ⟨[.slot 0 (.one (.d (.sl (.st 6)))), .slot 1 (.one (.fn 41 0 2)), .clo 0 0 (.d (.opt (.sl (.st 5)))), .clo 0 1 (.d (.opt (.st 4)))], [], 1⟩
def slices_IndexFunc_fare_Buy_fare_Buy.R : Tpl := ⟨[.slot 4 (.one (.d (.int .i64)))], [], 5⟩
def slices_IndexFunc_fare_Buy_fare_Buy.S : Spec tab := ⟨76, slices_IndexFunc_fare_Buy_fare_Buy.A, slices_IndexFunc_fare_Buy_fare_Buy.R, [4], fun (t : TplT tab slices_IndexFunc_fare_Buy_fare_Buy.A) => slices_IndexFunc_fare_Buy_fare_Buy t.1 t.2.1 t.2.2⟩
def slices_IndexFunc_fare_Buy_fare_Buy.h : Hint := .s .n (.s (.s .n (.rg ⟨[.kr 5 1, .kr 10 7], [], 261⟩ true (.b (.s .n (.s (.r [(5, 0)]) .n))))) .n)
theorem slices_IndexFunc_fare_Buy_fare_Buy.e (t : TplT tab (slices_IndexFunc_fare_Buy_fare_Buy.S).args) : (slices_IndexFunc_fare_Buy_fare_Buy.S).fn t = Dfn tt [fare_Cheapest_1.S] (slices_IndexFunc_fare_Buy_fare_Buy.S) (codeOf Tryz.f76) slices_IndexFunc_fare_Buy_fare_Buy.h t := by kernel_rfl
theorem slices_IndexFunc_fare_Buy_fare_Buy.H : Good Tryz.prog (slices_IndexFunc_fare_Buy_fare_Buy.S) := good_of ttok mixed Tryz.func76 (by kernel_rfl) (by kernel_rfl) (specs_cons fare_Cheapest_1.H specs_nil) (slices_IndexFunc_fare_Buy_fare_Buy.e)
def slices_ContainsFunc_fare_Buy_fare_Buy.A : Tpl := ⟨[.slot 0 (.one (.d (.sl (.st 6)))), .slot 1 (.one (.fn 41 0 2)), .clo 0 0 (.d (.opt (.sl (.st 5)))), .clo 0 1 (.d (.opt (.st 4)))], [], 1⟩
def slices_ContainsFunc_fare_Buy_fare_Buy.R : Tpl := ⟨[.slot 4 (.one (.d .bool))], [], 5⟩
def slices_ContainsFunc_fare_Buy_fare_Buy.S : Spec tab := ⟨40, slices_ContainsFunc_fare_Buy_fare_Buy.A, slices_ContainsFunc_fare_Buy_fare_Buy.R, [4], fun (t : TplT tab slices_ContainsFunc_fare_Buy_fare_Buy.A) => slices_ContainsFunc_fare_Buy_fare_Buy t.1 t.2.1 t.2.2⟩
def slices_ContainsFunc_fare_Buy_fare_Buy.h : Hint := .s .n (.s (.r [(2, 0)]) .n)
theorem slices_ContainsFunc_fare_Buy_fare_Buy.e (t : TplT tab (slices_ContainsFunc_fare_Buy_fare_Buy.S).args) : (slices_ContainsFunc_fare_Buy_fare_Buy.S).fn t = Dfn tt [slices_IndexFunc_fare_Buy_fare_Buy.S] (slices_ContainsFunc_fare_Buy_fare_Buy.S) (codeOf Tryz.f40) slices_ContainsFunc_fare_Buy_fare_Buy.h t := by kernel_rfl
theorem slices_ContainsFunc_fare_Buy_fare_Buy.H : Good Tryz.prog (slices_ContainsFunc_fare_Buy_fare_Buy.S) := good_of ttok mixed Tryz.func40 (by kernel_rfl) (by kernel_rfl) (specs_cons slices_IndexFunc_fare_Buy_fare_Buy.H specs_nil) (slices_ContainsFunc_fare_Buy_fare_Buy.e)
def cmp_isNaN_int.A : Tpl := ⟨[.slot 0 (.one (.d (.int .i64)))], [], 0⟩
def cmp_isNaN_int.R : Tpl := ⟨[.slot 2 (.one (.d .bool))], [], 1⟩
def cmp_isNaN_int.S : Spec tab := ⟨78, cmp_isNaN_int.A, cmp_isNaN_int.R, [2], fun (t : TplT tab cmp_isNaN_int.A) => cmp_isNaN_int t⟩
def cmp_isNaN_int.h : Hint := .n
theorem cmp_isNaN_int.e (t : TplT tab (cmp_isNaN_int.S).args) : (cmp_isNaN_int.S).fn t = Dfn tt [] (cmp_isNaN_int.S) (codeOf Tryz.f78) cmp_isNaN_int.h t := by kernel_rfl
theorem cmp_isNaN_int.H : Good Tryz.prog (cmp_isNaN_int.S) := good_of ttok mixed Tryz.func78 (by kernel_rfl) (by kernel_rfl) specs_nil (cmp_isNaN_int.e)
def cmp_Compare_int.A : Tpl := ⟨[.slot 0 (.one (.d (.int .i64))), .slot 1 (.one (.d (.int .i64)))], [], 0⟩
def cmp_Compare_int.R : Tpl := ⟨[.slot 4 (.one (.d (.int .i64)))], [], 2⟩
def cmp_Compare_int.S : Spec tab := ⟨44, cmp_Compare_int.A, cmp_Compare_int.R, [4], fun (t : TplT tab cmp_Compare_int.A) => cmp_Compare_int t.1 t.2⟩
def cmp_Compare_int.h : Hint := .s .n (.s (.r [(1, 0)]) (.s (.r [(1, 0)]) .n))
theorem cmp_Compare_int.e (t : TplT tab (cmp_Compare_int.S).args) : (cmp_Compare_int.S).fn t = Dfn tt [cmp_isNaN_int.S] (cmp_Compare_int.S) (codeOf Tryz.f44) cmp_Compare_int.h t := by kernel_rfl
theorem cmp_Compare_int.H : Good Tryz.prog (cmp_Compare_int.S) := good_of ttok mixed Tryz.func44 (by kernel_rfl) (by kernel_rfl) (specs_cons cmp_isNaN_int.H specs_nil) (cmp_Compare_int.e)
def cmp_Or_int.A : Tpl := ⟨[.slot 0 (.one (.d (.sl (.int .i64))))], [], 0⟩
def cmp_Or_int.R : Tpl := ⟨[.slot 2 (.one (.d (.int .i64)))], [], 1⟩
def cmp_Or_int.S : Spec tab := ⟨43, cmp_Or_int.A, cmp_Or_int.R, [2], fun (t : TplT tab cmp_Or_int.A) => cmp_Or_int t⟩
def cmp_Or_int.h : Hint := .s .n (.s .n (.s (.s .n (.rg ⟨[.kr 5 1, .kr 10 5], [], 321⟩ true .n)) .n))
theorem cmp_Or_int.e (t : TplT tab (cmp_Or_int.S).args) : (cmp_Or_int.S).fn t = Dfn tt [] (cmp_Or_int.S) (codeOf Tryz.f43) cmp_Or_int.h t := by kernel_rfl
theorem cmp_Or_int.H : Good Tryz.prog (cmp_Or_int.S) := good_of ttok mixed Tryz.func43 (by kernel_rfl) (by kernel_rfl) specs_nil (cmp_Or_int.e)
def fare_compareBuys.A : Tpl := ⟨[.slot 0 (.dat (.st 6)), .slot 1 (.dat (.st 6))], [], 0⟩
def fare_compareBuys.R : Tpl := ⟨[.slot 4 (.one (.d (.int .i64)))], [], 2⟩
def fare_compareBuys.S : Spec tab := ⟨46, fare_compareBuys.A, fare_compareBuys.R, [4], fun (t : TplT tab fare_compareBuys.A) => fare_compareBuys t.1 t.2⟩
def fare_compareBuys.h : Hint := .s .n (.s (.r [(4, 0), (9, 0), (11, 1)]) .n)
theorem fare_compareBuys.e (t : TplT tab (fare_compareBuys.S).args) : (fare_compareBuys.S).fn t = Dfn tt [cmp_Compare_int.S, cmp_Or_int.S] (fare_compareBuys.S) (codeOf Tryz.f46) fare_compareBuys.h t := by kernel_rfl
theorem fare_compareBuys.H : Good Tryz.prog (fare_compareBuys.S) := good_of ttok mixed Tryz.func46 (by kernel_rfl) (by kernel_rfl) (specs_cons cmp_Compare_int.H (specs_cons cmp_Or_int.H specs_nil)) (fare_compareBuys.e)
def slices_CompareFunc_fare_Buy_fare_Buy_fare_Buy_fare_Buy.A : Tpl := ⟨[.slot 0 (.one (.d (.sl (.st 6)))), .slot 1 (.one (.d (.sl (.st 6)))), .slot 2 (.one (.fn0 46))], [], 0⟩
def slices_CompareFunc_fare_Buy_fare_Buy_fare_Buy_fare_Buy.R : Tpl := ⟨[.slot 6 (.one (.d (.int .i64)))], [], 3⟩
def slices_CompareFunc_fare_Buy_fare_Buy_fare_Buy_fare_Buy.S : Spec tab := ⟨45, slices_CompareFunc_fare_Buy_fare_Buy_fare_Buy_fare_Buy.A, slices_CompareFunc_fare_Buy_fare_Buy_fare_Buy_fare_Buy.R, [6], fun (t : TplT tab slices_CompareFunc_fare_Buy_fare_Buy_fare_Buy_fare_Buy.A) => slices_CompareFunc_fare_Buy_fare_Buy_fare_Buy_fare_Buy t.1 t.2⟩
def slices_CompareFunc_fare_Buy_fare_Buy_fare_Buy_fare_Buy.h : Hint := .s .n (.s (.s .n (.rg ⟨[.kr 7 4, .kr 15 17], [], 259⟩ true (.b (.s .n (.s .n (.s .n (.s (.r [(3, 0)]) .n))))))) .n)
theorem slices_CompareFunc_fare_Buy_fare_Buy_fare_Buy_fare_Buy.e (t : TplT tab (slices_CompareFunc_fare_Buy_fare_Buy_fare_Buy_fare_Buy.S).args) : (slices_CompareFunc_fare_Buy_fare_Buy_fare_Buy_fare_Buy.S).fn t = Dfn tt [fare_compareBuys.S] (slices_CompareFunc_fare_Buy_fare_Buy_fare_Buy_fare_Buy.S) (codeOf Tryz.f45) slices_CompareFunc_fare_Buy_fare_Buy_fare_Buy_fare_Buy.h t := by kernel_rfl
theorem slices_CompareFunc_fare_Buy_fare_Buy_fare_Buy_fare_Buy.H : Good Tryz.prog (slices_CompareFunc_fare_Buy_fare_Buy_fare_Buy_fare_Buy.S) := good_of ttok mixed Tryz.func45 (by kernel_rfl) (by kernel_rfl) (specs_cons fare_compareBuys.H specs_nil) (slices_CompareFunc_fare_Buy_fare_Buy_fare_Buy_fare_Buy.e)
def fare_Cheapest.A : Tpl := ⟨[.slot 0 (.dat (.st 3)), .slot 1 (.one (.d (.sl (.st 4)))), .slot 2 (.one (.d (.sl (.st 5))))], [], 0⟩
def fare_Cheapest.R : Tpl := ⟨[.slot 6 (.one (.d (.int .i64))), .slot 7 (.one (.own 3 (.st 6))), .slot 8 (.one (.d (.int .i64))), .arr 3 (.st 6) 0], [(3, .arr (.st 6))], 4⟩
def fare_Cheapest.S : Spec tab := ⟨11, fare_Cheapest.A, fare_Cheapest.R, [6, 7, 8], fun (t : TplT tab fare_Cheapest.A) => fare_Cheapest t.1 t.2.1 t.2.2⟩
def fare_Cheapest.h : Hint := .s .n (.s (.s (.r [(1, 0)]) .n) (.s (.cut ⟨[.slot 41 (.one (.d .bool)), .kr 34 7], [(3, .blk 25 4), (67, .blk 33 1)], 643⟩ false [] .n .n) (.s .n (.s (.s .n (.rg ⟨[.slot 10 (.one (.own 901 (.int .i64))), .arr 901 (.int .i64) 0, .kr 12 4, .kr 46 6, .kr 53 10], [(3, .blk 25 4), (67, .blk 33 1), (901, .arr (.int .i64))], 902⟩ true (.b (.s .n (.s (.s (.r [(1, 1)]) .n) (.s (.r [(2, 2)]) .n)))))) (.s (.s .n (.rg ⟨[.kr 17 2, .kr 68 17], [(3, .blk 25 4), (67, .blk 33 1), (901, .arr (.int .i64))], 1099⟩ true (.b (.s .n (.s (.cut ⟨[.slot 79 (.one (.d .bool)), .kr 70 9], [(3, .blk 25 4), (67, .blk 33 1), (901, .arr (.int .i64)), (1229, .blk 29 3)], 1357⟩ false [] (.r [(2, 3), (7, 3)]) .n) (.s (.r [(2, 4)]) .n)))))) (.s .n (.s .n (.s (.s .n (.rg ⟨[.slot 19 (.one (.own 1549 (.st 6))), .slot 20 (.one (.d (.int .i64))), .arr 1549 (.st 6) 0, .kr 21 4, .kr 26 3, .kr 93 78], [(3, .blk 25 4), (67, .blk 33 1), (901, .arr (.int .i64)), (1549, .arr (.st 6))], 1550⟩ false (.b (.s .n (.s .n (.s (.s .n (.rg ⟨[.slot 22 (.one (.own 2004 (.st 6))), .arr 2004 (.st 6) 0, .kr 23 1, .kr 99 18], [(3, .blk 25 4), (67, .blk 33 1), (901, .arr (.int .i64)), (1549, .arr (.st 6)), (2004, .arr (.st 6))], 2005⟩ false .n)) (.s .n (.s (.s .n (.rg ⟨[.slot 24 (.one (.d (.int .i64))), .kr 26 1, .kr 122 10], [(3, .blk 25 4), (67, .blk 33 1), (901, .arr (.int .i64)), (1549, .arr (.st 6)), (2004, .arr (.st 6))], 2265⟩ false .n)) (.s (.s .n (.rg ⟨[.slot 24 (.one (.d (.int .i64))), .kr 27 2, .kr 137 13], [(3, .blk 25 4), (67, .blk 33 1), (901, .arr (.int .i64)), (1549, .arr (.st 6)), (2004, .arr (.st 6))], 2460⟩ false (.b (.s .n (.s (.r [(2, 5)]) .n))))) (.cut ⟨[.slot 168 (.one (.d .bool)), .kr 151 17], [(3, .blk 25 4), (67, .blk 33 1), (901, .arr (.int .i64)), (1549, .arr (.st 6)), (2004, .arr (.st 6))], 2463⟩ false [] (.r [(5, 6), (10, 6), (13, 7), (15, 8)]) .n)))))))))) .n))))))))
theorem fare_Cheapest.e (t : TplT tab (fare_Cheapest.S).args) : (fare_Cheapest.S).fn t = Dfn tt [fare_CheckTariff.S, fare_CheckTrip.S, fare_Tariff_price.S, fare_within.S, fare_checkZones.S, slices_ContainsFunc_fare_Buy_fare_Buy.S, cmp_Compare_int.S, slices_CompareFunc_fare_Buy_fare_Buy_fare_Buy_fare_Buy.S, cmp_Or_int.S] (fare_Cheapest.S) (codeOf Tryz.f11) fare_Cheapest.h t := by kernel_rfl
theorem fare_Cheapest.H : Good Tryz.prog (fare_Cheapest.S) := good_of ttok mixed Tryz.func11 (by kernel_rfl) (by kernel_rfl) (specs_cons fare_CheckTariff.H (specs_cons fare_CheckTrip.H (specs_cons fare_Tariff_price.H (specs_cons fare_within.H (specs_cons fare_checkZones.H (specs_cons slices_ContainsFunc_fare_Buy_fare_Buy.H (specs_cons cmp_Compare_int.H (specs_cons slices_CompareFunc_fare_Buy_fare_Buy_fare_Buy_fare_Buy.H (specs_cons cmp_Or_int.H specs_nil))))))))) (fare_Cheapest.e)
def fare_Price_v2.A : Tpl := ⟨[.slot 0 (.dat (.st 3)), .slot 1 (.dat (.st 4))], [], 0⟩
def fare_Price_v2.R : Tpl := ⟨[.slot 4 (.one (.d (.int .i64))), .slot 5 (.one (.own 2 (.int .i64))), .slot 6 (.one (.d (.int .i64))), .arr 2 (.int .i64) 0], [(2, .arr (.int .i64))], 3⟩
def fare_Price_v2.S : Spec tab := ⟨12, fare_Price_v2.A, fare_Price_v2.R, [4, 5, 6], fun (t : TplT tab fare_Price_v2.A) => fare_Price_v2 t.1 t.2⟩
def fare_Price_v2.h : Hint := .s .n (.s (.s (.r [(1, 0)]) .n) (.s (.s (.r [(1, 1)]) .n) (.s (.r [(2, 2)]) .n)))
theorem fare_Price_v2.e (t : TplT tab (fare_Price_v2.S).args) : (fare_Price_v2.S).fn t = Dfn tt [fare_CheckTariff.S, fare_CheckTrip.S, fare_Tariff_price.S] (fare_Price_v2.S) (codeOf Tryz.f12) fare_Price_v2.h t := by kernel_rfl
theorem fare_Price_v2.H : Good Tryz.prog (fare_Price_v2.S) := good_of ttok mixed Tryz.func12 (by kernel_rfl) (by kernel_rfl) (specs_cons fare_CheckTariff.H (specs_cons fare_CheckTrip.H (specs_cons fare_Tariff_price.H specs_nil))) (fare_Price_v2.e)
def fishkeep2_FareLess.A : Tpl := ⟨[.slot 0 (.dat (.st 3)), .slot 1 (.one (.d (.sl (.st 4)))), .slot 2 (.dat (.st 5)), .slot 3 (.dat (.st 5))], [], 0⟩
def fishkeep2_FareLess.R : Tpl := ⟨[.slot 8 (.one (.d .bool))], [], 4⟩
def fishkeep2_FareLess.S : Spec tab := ⟨3, fishkeep2_FareLess.A, fishkeep2_FareLess.R, [8], fun (t : TplT tab fishkeep2_FareLess.A) => fishkeep2_FareLess t.1 t.2.1 t.2.2.1 t.2.2.2⟩
def fishkeep2_FareLess.h : Hint := .s .n (.s (.s (.r [(0, 0)]) .n) (.s (.s (.r [(0, 1)]) .n) (.s (.s (.r [(5, 2)]) .n) (.s (.r [(2, 3)]) (.s (.r [(4, 3)]) (.s (.r [(5, 3)]) (.s .n (.s (.s .n (.rg ⟨[.slot 18 (.one (.d (.int .i64))), .kr 20 4, .kr 68 14], [(4, .blk 25 4), (68, .blk 29 3), (132, .blk 29 3), (772, .arr (.st 5)), (1095, .arr (.st 6)), (1863, .arr (.st 6)), (2695, .arr (.st 6))], 3460⟩ true (.b (.s .n (.s (.r [(2, 4)]) .n))))) (.s .n (.s (.r [(4, 3)]) (.cut ⟨[.slot 8 (.one (.d .bool)), .kr 96 34], [(4, .blk 25 4), (68, .blk 29 3), (132, .blk 29 3), (772, .arr (.st 5)), (1095, .arr (.st 6)), (1863, .arr (.st 6)), (2695, .arr (.st 6)), (4042, .arr (.st 6))], 4551⟩ false [] .n .n)))))))))))
theorem fishkeep2_FareLess.e (t : TplT tab (fishkeep2_FareLess.S).args) : (fishkeep2_FareLess.S).fn t = Dfn tt [fishkeep2_awakeFare.S, fishkeep2_fares.S, fishref2_CheapestFault.S, fare_Cheapest.S, fare_Price_v2.S] (fishkeep2_FareLess.S) (codeOf Tryz.f3) fishkeep2_FareLess.h t := by kernel_rfl
theorem fishkeep2_FareLess.H : Good Tryz.prog (fishkeep2_FareLess.S) := good_of ttok mixed Tryz.func3 (by kernel_rfl) (by kernel_rfl) (specs_cons fishkeep2_awakeFare.H (specs_cons fishkeep2_fares.H (specs_cons fishref2_CheapestFault.H (specs_cons fare_Cheapest.H (specs_cons fare_Price_v2.H specs_nil))))) (fishkeep2_FareLess.e)
end Hd
