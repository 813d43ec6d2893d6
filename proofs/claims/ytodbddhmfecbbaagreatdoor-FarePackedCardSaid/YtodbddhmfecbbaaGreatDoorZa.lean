/- Each call returns what its plain function gives. Printed by a tool. -/
import Derived.Test.YtodbddhmfecbbaaGreatDoorZT
set_option linter.unusedVariables false
set_option linter.unusedSimpArgs false
set_option maxRecDepth 100000
set_option maxHeartbeats 4000000
namespace Hd
open Go Hk Go.Proofs
def fishkeep2_awakeFare.A : Tpl := ⟨[], [], 0⟩
def fishkeep2_awakeFare.R : Tpl := ⟨[.slot 0 (.one (.d .bool))], [], 0⟩
def fishkeep2_awakeFare.S : Spec tab := ⟨8, fishkeep2_awakeFare.A, fishkeep2_awakeFare.R, [0], fun _ => fishkeep2_awakeFare⟩
theorem fishkeep2_awakeFare.H : Good Tryz.prog fishkeep2_awakeFare.S := true_good (B := tab) (by kernel_rfl) fun w => trueCalls_awakeFare w
def fare_within.A : Tpl := ⟨[.slot 0 (.one (.d (.int .i64))), .slot 1 (.one (.d (.int .i64))), .slot 2 (.one (.d (.int .i64)))], [], 0⟩
def fare_within.R : Tpl := ⟨[.slot 6 (.one (.d .bool))], [], 3⟩
def fare_within.S : Spec tab := ⟨38, fare_within.A, fare_within.R, [6], fun (t : TplT tab fare_within.A) => fare_within t.1 t.2.1 t.2.2⟩
def fare_within.h : Hint := .s .n (.cut ⟨[.slot 6 (.one (.d .bool)), .kr 7 8], [], 67⟩ false [] .n .n)
theorem fare_within.e (t : TplT tab (fare_within.S).args) : (fare_within.S).fn t = Dfn tt [] (fare_within.S) (codeOf Tryz.f38) fare_within.h t := by kernel_rfl
theorem fare_within.H : Good Tryz.prog (fare_within.S) := good_of ttok mixed Tryz.func38 (by kernel_rfl) (by kernel_rfl) specs_nil (fare_within.e)
def fare_Cond_size.A : Tpl := ⟨[.slot 0 (.dat (.st 2))], [], 0⟩
def fare_Cond_size.R : Tpl := ⟨[.slot 2 (.one (.d (.int .i64))), .slot 3 (.one (.d (.int .i64)))], [], 1⟩
def fare_Cond_size.S_ (rec_ : S_fare_Cond → Option (Int × Int)) : Spec tab := ⟨103, fare_Cond_size.A, fare_Cond_size.R, [2, 3], fun (t : TplT tab fare_Cond_size.A) => rec_ t⟩
def fare_Cond_size.h : Hint := .s .n (.s .n (.s (.s .n (.rg ⟨[.slot 2 (.one (.d (.int .i64))), .slot 3 (.one (.d (.int .i64))), .kr 5 3, .kr 13 13], [(1, .blk 87 4)], 513⟩ false (.b (.s .n (.s (.r [(1, 0)]) .n))))) .n))
theorem fare_Cond_size.e (rec_ : S_fare_Cond → Option (Int × Int)) (t : TplT tab (fare_Cond_size.S_ rec_).args) : (fare_Cond_size.S_ (fare_Cond_size_step rec_)).fn t = Dfn tt [fare_Cond_size.S_ rec_] (fare_Cond_size.S_ (fare_Cond_size_step rec_)) (codeOf Tryz.f103) fare_Cond_size.h t := by kernel_rfl
def fare_Cond_size.S : Spec tab := fare_Cond_size.S_ (fare_Cond_size)
theorem fare_Cond_size.H : Good Tryz.prog (fare_Cond_size.S) := good_rec (S := fare_Cond_size.S_) (f := fare_Cond_size_n) (fun t => rfl) (by kernel_rfl) (fun n h => good_of ttok mixed Tryz.func103 (by kernel_rfl) (by kernel_rfl) (specs_cons h specs_nil) (fare_Cond_size.e (fare_Cond_size_n n))) bigN
def fare_numbers.A : Tpl := ⟨[.slot 0 (.one (.d (.int .i64)))], [], 0⟩
def fare_numbers.R : Tpl := ⟨[.slot 2 (.one (.d (.int .i64)))], [], 1⟩
def fare_numbers.S : Spec tab := ⟨127, fare_numbers.A, fare_numbers.R, [2], fun (t : TplT tab fare_numbers.A) => fare_numbers t⟩
def fare_numbers.h : Hint := .s .n (.s (.s .n (.b (.cut ⟨[.slot 4 (.one (.d .bool)), .kr 5 4], [], 129⟩ false [] .n (.c .n (.cut ⟨[.slot 9 (.one (.d .bool)), .kr 10 3], [], 131⟩ false [] .n .n))))) .n)
theorem fare_numbers.e (t : TplT tab (fare_numbers.S).args) : (fare_numbers.S).fn t = Dfn tt [] (fare_numbers.S) (codeOf Tryz.f127) fare_numbers.h t := by kernel_rfl
theorem fare_numbers.H : Good Tryz.prog (fare_numbers.S) := good_of ttok mixed Tryz.func127 (by kernel_rfl) (by kernel_rfl) specs_nil (fare_numbers.e)
def fare_Cond_node.A : Tpl := ⟨[.slot 0 (.dat (.st 2))], [], 0⟩
def fare_Cond_node.R : Tpl := ⟨[.slot 2 (.one (.d (.int .i64)))], [], 1⟩
def fare_Cond_node.S_ (rec_ : S_fare_Cond → Option (Int)) : Spec tab := ⟨104, fare_Cond_node.A, fare_Cond_node.R, [2], fun (t : TplT tab fare_Cond_node.A) => rec_ t⟩
def fare_Cond_node.h : Hint := .s .n (.s (.r [(2, 0)]) (.s (.b (.s (.r [(2, 1)]) (.c .n (.cut ⟨[.slot 15 (.one (.d .bool)), .kr 16 10], [(1, .blk 87 4)], 705⟩ false [] (.r [(2, 1), (7, 1)]) (.c .n (.cut ⟨[.slot 26 (.one (.d .bool)), .kr 27 27], [(1, .blk 87 4)], 707⟩ false [] .n (.c .n (.cut ⟨[.slot 54 (.one (.d .bool)), .kr 55 31], [(1, .blk 87 4)], 709⟩ false [] .n .n)))))))) (.s (.s .n (.rg ⟨[.kr 5 2, .kr 91 6], [(1, .blk 87 4)], 967⟩ true (.b (.s .n (.s (.r [(1, 2)]) .n))))) .n)))
theorem fare_Cond_node.e (rec_ : S_fare_Cond → Option (Int)) (t : TplT tab (fare_Cond_node.S_ rec_).args) : (fare_Cond_node.S_ (fare_Cond_node_step rec_)).fn t = Dfn tt [fare_numbers.S, fare_within.S, fare_Cond_node.S_ rec_] (fare_Cond_node.S_ (fare_Cond_node_step rec_)) (codeOf Tryz.f104) fare_Cond_node.h t := by kernel_rfl
def fare_Cond_node.S : Spec tab := fare_Cond_node.S_ (fare_Cond_node)
theorem fare_Cond_node.H : Good Tryz.prog (fare_Cond_node.S) := good_rec (S := fare_Cond_node.S_) (f := fare_Cond_node_n) (fun t => rfl) (by kernel_rfl) (fun n h => good_of ttok mixed Tryz.func104 (by kernel_rfl) (by kernel_rfl) (specs_cons fare_numbers.H (specs_cons fare_within.H (specs_cons h specs_nil))) (fare_Cond_node.e (fare_Cond_node_n n))) bigN
def fare_Cond_check.A : Tpl := ⟨[.slot 0 (.dat (.st 2))], [], 0⟩
def fare_Cond_check.R : Tpl := ⟨[.slot 2 (.one (.d (.int .i64)))], [], 1⟩
def fare_Cond_check.S : Spec tab := ⟨71, fare_Cond_check.A, fare_Cond_check.R, [2], fun (t : TplT tab fare_Cond_check.A) => fare_Cond_check t⟩
def fare_Cond_check.h : Hint := .s .n (.s (.s (.r [(1, 0)]) (.cut ⟨[.slot 15 (.one (.d .bool)), .kr 10 5], [(1, .blk 87 4)], 577⟩ false [] .n .n)) (.s (.r [(1, 1)]) .n))
theorem fare_Cond_check.e (t : TplT tab (fare_Cond_check.S).args) : (fare_Cond_check.S).fn t = Dfn tt [fare_Cond_size.S, fare_Cond_node.S] (fare_Cond_check.S) (codeOf Tryz.f71) fare_Cond_check.h t := by kernel_rfl
theorem fare_Cond_check.H : Good Tryz.prog (fare_Cond_check.S) := good_of ttok mixed Tryz.func71 (by kernel_rfl) (by kernel_rfl) (specs_cons fare_Cond_size.H (specs_cons fare_Cond_node.H specs_nil)) (fare_Cond_check.e)
def fare_CheckTariff.A : Tpl := ⟨[.slot 0 (.dat (.st 4))], [], 0⟩
def fare_CheckTariff.R : Tpl := ⟨[.slot 2 (.one (.d (.int .i64)))], [], 1⟩
def fare_CheckTariff.S : Spec tab := ⟨35, fare_CheckTariff.A, fare_CheckTariff.R, [2], fun (t : TplT tab fare_CheckTariff.A) => fare_CheckTariff t⟩
def fare_CheckTariff.h : Hint := .s .n (.s (.cut ⟨[.slot 19 (.one (.d .bool)), .kr 9 10], [(1, .blk 25 4)], 129⟩ false [] (.r [(3, 0)]) .n) (.s (.s .n (.rg ⟨[.kr 3 2, .kr 25 39], [(1, .blk 25 4)], 387⟩ true (.b (.s .n (.s (.cut ⟨[.slot 37 (.one (.d .bool)), .kr 28 9], [(1, .blk 25 4), (581, .blk 84 2)], 773⟩ false [] (.r [(2, 0), (7, 0)]) .n) (.cut ⟨[.slot 63 (.one (.d .bool)), .kr 38 25], [(1, .blk 25 4), (581, .blk 84 2)], 775⟩ false [] .n .n)))))) (.s (.s (.r [(2, 0)]) .n) (.s (.s .n (.rg ⟨[.kr 6 3, .kr 74 7, .kr 82 14], [(1, .blk 25 4)], 901⟩ true (.b (.s .n (.s (.s (.r [(2, 1)]) .n) (.s .n (.cut ⟨[.slot 8 (.one (.d (.int .i64))), .kr 82 3], [(1, .blk 25 4), (1032, .blk 89 7)], 1608⟩ false [] .n (.b (.s (.r [(2, 0)]) (.c .n (.s (.r [(3, 0)]) .n))))))))))) .n))))
theorem fare_CheckTariff.e (t : TplT tab (fare_CheckTariff.S).args) : (fare_CheckTariff.S).fn t = Dfn tt [fare_within.S, fare_Cond_check.S] (fare_CheckTariff.S) (codeOf Tryz.f35) fare_CheckTariff.h t := by kernel_rfl
theorem fare_CheckTariff.H : Good Tryz.prog (fare_CheckTariff.S) := good_of ttok mixed Tryz.func35 (by kernel_rfl) (by kernel_rfl) (specs_cons fare_within.H (specs_cons fare_Cond_check.H specs_nil)) (fare_CheckTariff.e)
def fare_checkZones.A : Tpl := ⟨[.slot 0 (.one (.d (.sl (.int .i64)))), .slot 1 (.one (.d .bool))], [], 0⟩
def fare_checkZones.R : Tpl := ⟨[.slot 4 (.one (.d (.int .i64)))], [], 2⟩
def fare_checkZones.S : Spec tab := ⟨39, fare_checkZones.A, fare_checkZones.R, [4], fun (t : TplT tab fare_checkZones.A) => fare_checkZones t.1 t.2⟩
def fare_checkZones.h : Hint := .s .n (.s (.s .n (.rg ⟨[.kr 5 2, .kr 11 29], [], 258⟩ true (.b (.s .n (.s (.s (.r [(1, 0)]) .n) (.cut ⟨[.slot 39 (.one (.d .bool)), .kr 17 22], [], 772⟩ false [] .n .n)))))) .n)
theorem fare_checkZones.e (t : TplT tab (fare_checkZones.S).args) : (fare_checkZones.S).fn t = Dfn tt [fare_within.S] (fare_checkZones.S) (codeOf Tryz.f39) fare_checkZones.h t := by kernel_rfl
theorem fare_checkZones.H : Good Tryz.prog (fare_checkZones.S) := good_of ttok mixed Tryz.func39 (by kernel_rfl) (by kernel_rfl) (specs_cons fare_within.H specs_nil) (fare_checkZones.e)
def fare_CheckTrip.A : Tpl := ⟨[.slot 0 (.dat (.st 5))], [], 0⟩
def fare_CheckTrip.R : Tpl := ⟨[.slot 2 (.one (.d (.int .i64)))], [], 1⟩
def fare_CheckTrip.S : Spec tab := ⟨36, fare_CheckTrip.A, fare_CheckTrip.R, [2], fun (t : TplT tab fare_CheckTrip.A) => fare_CheckTrip t⟩
def fare_CheckTrip.h : Hint := .s .n (.s (.b (.cut ⟨[.slot 3 (.one (.d .bool)), .kr 4 22], [(1, .blk 38 6)], 129⟩ false [] (.r [(2, 0), (7, 0), (13, 0), (19, 0)]) (.c .n (.s (.r [(3, 0)]) .n)))) (.s (.r [(2, 1)]) .n))
theorem fare_CheckTrip.e (t : TplT tab (fare_CheckTrip.S).args) : (fare_CheckTrip.S).fn t = Dfn tt [fare_within.S, fare_checkZones.S] (fare_CheckTrip.S) (codeOf Tryz.f36) fare_CheckTrip.h t := by kernel_rfl
theorem fare_CheckTrip.H : Good Tryz.prog (fare_CheckTrip.S) := good_of ttok mixed Tryz.func36 (by kernel_rfl) (by kernel_rfl) (specs_cons fare_within.H (specs_cons fare_checkZones.H specs_nil)) (fare_CheckTrip.e)
def fare_Tariff_price_1.A : Tpl := ⟨[.slot 0 (.dat (.st 1)), .slot 1 (.one (.d (.opt (.int .i64))))], [], 0⟩
def fare_Tariff_price_1.R : Tpl := ⟨[.slot 3 (.one (.d .bool))], [], 2⟩
def fare_Tariff_price_1.S : Spec tab := ⟨73, fare_Tariff_price_1.A, fare_Tariff_price_1.R, [3], fun (t : TplT tab fare_Tariff_price_1.A) => fare_Tariff_price_1 t.1 t.2⟩
def fare_Tariff_price_1.h : Hint := .n
theorem fare_Tariff_price_1.e (t : TplT tab (fare_Tariff_price_1.S).args) : (fare_Tariff_price_1.S).fn t = Dfn tt [] (fare_Tariff_price_1.S) (codeOf Tryz.f73) fare_Tariff_price_1.h t := by kernel_rfl
theorem fare_Tariff_price_1.H : Good Tryz.prog (fare_Tariff_price_1.S) := good_of ttok mixed Tryz.func73 (by kernel_rfl) (by kernel_rfl) specs_nil (fare_Tariff_price_1.e)
def slices_IndexFunc_fare_Band_fare_Band.A : Tpl := ⟨[.slot 0 (.one (.d (.sl (.st 1)))), .slot 1 (.one (.fn 73 0 1)), .clo 0 0 (.d (.opt (.int .i64)))], [], 1⟩
def slices_IndexFunc_fare_Band_fare_Band.R : Tpl := ⟨[.slot 4 (.one (.d (.int .i64)))], [], 4⟩
def slices_IndexFunc_fare_Band_fare_Band.S : Spec tab := ⟨72, slices_IndexFunc_fare_Band_fare_Band.A, slices_IndexFunc_fare_Band_fare_Band.R, [4], fun (t : TplT tab slices_IndexFunc_fare_Band_fare_Band.A) => slices_IndexFunc_fare_Band_fare_Band t.1 t.2⟩
def slices_IndexFunc_fare_Band_fare_Band.h : Hint := .s .n (.s (.s .n (.rg ⟨[.kr 5 1, .kr 10 7], [], 260⟩ true (.b (.s .n (.s (.r [(5, 0)]) .n))))) .n)
theorem slices_IndexFunc_fare_Band_fare_Band.e (t : TplT tab (slices_IndexFunc_fare_Band_fare_Band.S).args) : (slices_IndexFunc_fare_Band_fare_Band.S).fn t = Dfn tt [fare_Tariff_price_1.S] (slices_IndexFunc_fare_Band_fare_Band.S) (codeOf Tryz.f72) slices_IndexFunc_fare_Band_fare_Band.h t := by kernel_rfl
theorem slices_IndexFunc_fare_Band_fare_Band.H : Good Tryz.prog (slices_IndexFunc_fare_Band_fare_Band.S) := good_of ttok mixed Tryz.func72 (by kernel_rfl) (by kernel_rfl) (specs_cons fare_Tariff_price_1.H specs_nil) (slices_IndexFunc_fare_Band_fare_Band.e)
def fare_Cond_holds_1.A : Tpl := ⟨[.slot 0 (.one (.d (.int .i64))), .slot 1 (.one (.d (.opt (.st 2))))], [], 0⟩
def fare_Cond_holds_1.R : Tpl := ⟨[.slot 3 (.one (.d .bool))], [], 2⟩
def fare_Cond_holds_1.S : Spec tab := ⟨105, fare_Cond_holds_1.A, fare_Cond_holds_1.R, [3], fun (t : TplT tab fare_Cond_holds_1.A) => fare_Cond_holds_1 t.1 t.2⟩
def fare_Cond_holds_1.h : Hint := .s .n (.s (.r [(5, 0)]) .n)
theorem fare_Cond_holds_1.e (t : TplT tab (fare_Cond_holds_1.S).args) : (fare_Cond_holds_1.S).fn t = Dfn tt [fare_within.S] (fare_Cond_holds_1.S) (codeOf Tryz.f105) fare_Cond_holds_1.h t := by kernel_rfl
theorem fare_Cond_holds_1.H : Good Tryz.prog (fare_Cond_holds_1.S) := good_of ttok mixed Tryz.func105 (by kernel_rfl) (by kernel_rfl) (specs_cons fare_within.H specs_nil) (fare_Cond_holds_1.e)
def slices_Index_int_int.A : Tpl := ⟨[.slot 0 (.one (.d (.sl (.int .i64)))), .slot 1 (.one (.d (.int .i64)))], [], 0⟩
def slices_Index_int_int.R : Tpl := ⟨[.slot 4 (.one (.d (.int .i64)))], [], 2⟩
def slices_Index_int_int.S : Spec tab := ⟨67, slices_Index_int_int.A, slices_Index_int_int.R, [4], fun (t : TplT tab slices_Index_int_int.A) => slices_Index_int_int t.1 t.2⟩
def slices_Index_int_int.h : Hint := .s .n (.s (.s .n (.rg ⟨[.kr 5 1, .kr 10 7], [], 258⟩ true .n)) .n)
theorem slices_Index_int_int.e (t : TplT tab (slices_Index_int_int.S).args) : (slices_Index_int_int.S).fn t = Dfn tt [] (slices_Index_int_int.S) (codeOf Tryz.f67) slices_Index_int_int.h t := by kernel_rfl
theorem slices_Index_int_int.H : Good Tryz.prog (slices_Index_int_int.S) := good_of ttok mixed Tryz.func67 (by kernel_rfl) (by kernel_rfl) specs_nil (slices_Index_int_int.e)
def slices_Contains_int_int.A : Tpl := ⟨[.slot 0 (.one (.d (.sl (.int .i64)))), .slot 1 (.one (.d (.int .i64)))], [], 0⟩
def slices_Contains_int_int.R : Tpl := ⟨[.slot 4 (.one (.d .bool))], [], 2⟩
def slices_Contains_int_int.S : Spec tab := ⟨27, slices_Contains_int_int.A, slices_Contains_int_int.R, [4], fun (t : TplT tab slices_Contains_int_int.A) => slices_Contains_int_int t.1 t.2⟩
def slices_Contains_int_int.h : Hint := .s .n (.s (.r [(2, 0)]) .n)
theorem slices_Contains_int_int.e (t : TplT tab (slices_Contains_int_int.S).args) : (slices_Contains_int_int.S).fn t = Dfn tt [slices_Index_int_int.S] (slices_Contains_int_int.S) (codeOf Tryz.f27) slices_Contains_int_int.h t := by kernel_rfl
theorem slices_Contains_int_int.H : Good Tryz.prog (slices_Contains_int_int.S) := good_of ttok mixed Tryz.func27 (by kernel_rfl) (by kernel_rfl) (specs_cons slices_Index_int_int.H specs_nil) (slices_Contains_int_int.e)
def fare_Cond_holds.A : Tpl := ⟨[.slot 0 (.dat (.st 2)), .slot 1 (.dat (.st 5))], [], 0⟩
def fare_Cond_holds.R : Tpl := ⟨[.slot 4 (.one (.d .bool))], [], 2⟩
def fare_Cond_holds.S_ (rec_ : S_fare_Cond → S_fare_Trip → Option (Bool)) : Spec tab := ⟨74, fare_Cond_holds.A, fare_Cond_holds.R, [4], fun (t : TplT tab fare_Cond_holds.A) => rec_ t.1 t.2⟩
def fare_Cond_holds_2.A : Tpl := ⟨[.slot 0 (.dat (.st 2)), .slot 1 (.one (.d (.opt (.st 5))))], [], 0⟩
def fare_Cond_holds_2.R : Tpl := ⟨[.slot 3 (.one (.d .bool))], [], 2⟩
def fare_Cond_holds_2.S (rec_fare_Cond_holds : S_fare_Cond → S_fare_Trip → Option (Bool)) : Spec tab := ⟨107, fare_Cond_holds_2.A, fare_Cond_holds_2.R, [3], fun (t : TplT tab fare_Cond_holds_2.A) => fare_Cond_holds_2 rec_fare_Cond_holds t.1 t.2⟩
def fare_Cond_holds_2.h : Hint := .s .n (.s (.r [(2, 0)]) .n)
theorem fare_Cond_holds_2.e (rec_fare_Cond_holds : S_fare_Cond → S_fare_Trip → Option (Bool)) (t : TplT tab (fare_Cond_holds_2.S rec_fare_Cond_holds).args) : (fare_Cond_holds_2.S rec_fare_Cond_holds).fn t = Dfn tt [fare_Cond_holds.S_ rec_fare_Cond_holds] (fare_Cond_holds_2.S rec_fare_Cond_holds) (codeOf Tryz.f107) fare_Cond_holds_2.h t := by kernel_rfl
theorem fare_Cond_holds_2.H (rec_fare_Cond_holds : S_fare_Cond → S_fare_Trip → Option (Bool)) (h_fare_Cond_holds : Good Tryz.prog (fare_Cond_holds.S_ rec_fare_Cond_holds)) : Good Tryz.prog (fare_Cond_holds_2.S rec_fare_Cond_holds) := good_of ttok mixed Tryz.func107 (by kernel_rfl) (by kernel_rfl) (specs_cons h_fare_Cond_holds specs_nil) (fare_Cond_holds_2.e rec_fare_Cond_holds)
def slices_IndexFunc_fare_Cond_fare_Cond.A : Tpl := ⟨[.slot 0 (.one (.d (.sl (.st 2)))), .slot 1 (.one (.fn 107 0 1)), .clo 0 0 (.d (.opt (.st 5)))], [], 1⟩
def slices_IndexFunc_fare_Cond_fare_Cond.R : Tpl := ⟨[.slot 4 (.one (.d (.int .i64)))], [], 4⟩
def slices_IndexFunc_fare_Cond_fare_Cond.S (rec_fare_Cond_holds : S_fare_Cond → S_fare_Trip → Option (Bool)) : Spec tab := ⟨128, slices_IndexFunc_fare_Cond_fare_Cond.A, slices_IndexFunc_fare_Cond_fare_Cond.R, [4], fun (t : TplT tab slices_IndexFunc_fare_Cond_fare_Cond.A) => slices_IndexFunc_fare_Cond_fare_Cond rec_fare_Cond_holds t.1 t.2⟩
def slices_IndexFunc_fare_Cond_fare_Cond.h : Hint := .s .n (.s (.s .n (.rg ⟨[.kr 5 1, .kr 10 7], [], 260⟩ true (.b (.s .n (.s (.r [(5, 0)]) .n))))) .n)
theorem slices_IndexFunc_fare_Cond_fare_Cond.e (rec_fare_Cond_holds : S_fare_Cond → S_fare_Trip → Option (Bool)) (t : TplT tab (slices_IndexFunc_fare_Cond_fare_Cond.S rec_fare_Cond_holds).args) : (slices_IndexFunc_fare_Cond_fare_Cond.S rec_fare_Cond_holds).fn t = Dfn tt [fare_Cond_holds_2.S rec_fare_Cond_holds] (slices_IndexFunc_fare_Cond_fare_Cond.S rec_fare_Cond_holds) (codeOf Tryz.f128) slices_IndexFunc_fare_Cond_fare_Cond.h t := by kernel_rfl
theorem slices_IndexFunc_fare_Cond_fare_Cond.H (rec_fare_Cond_holds : S_fare_Cond → S_fare_Trip → Option (Bool)) (h_fare_Cond_holds : Good Tryz.prog (fare_Cond_holds.S_ rec_fare_Cond_holds)) : Good Tryz.prog (slices_IndexFunc_fare_Cond_fare_Cond.S rec_fare_Cond_holds) := good_of ttok mixed Tryz.func128 (by kernel_rfl) (by kernel_rfl) (specs_cons (fare_Cond_holds_2.H rec_fare_Cond_holds h_fare_Cond_holds) specs_nil) (slices_IndexFunc_fare_Cond_fare_Cond.e rec_fare_Cond_holds)
def slices_ContainsFunc_fare_Cond_fare_Cond.A : Tpl := ⟨[.slot 0 (.one (.d (.sl (.st 2)))), .slot 1 (.one (.fn 107 0 1)), .clo 0 0 (.d (.opt (.st 5)))], [], 1⟩
def slices_ContainsFunc_fare_Cond_fare_Cond.R : Tpl := ⟨[.slot 4 (.one (.d .bool))], [], 4⟩
def slices_ContainsFunc_fare_Cond_fare_Cond.S (rec_fare_Cond_holds : S_fare_Cond → S_fare_Trip → Option (Bool)) : Spec tab := ⟨106, slices_ContainsFunc_fare_Cond_fare_Cond.A, slices_ContainsFunc_fare_Cond_fare_Cond.R, [4], fun (t : TplT tab slices_ContainsFunc_fare_Cond_fare_Cond.A) => slices_ContainsFunc_fare_Cond_fare_Cond rec_fare_Cond_holds t.1 t.2⟩
def slices_ContainsFunc_fare_Cond_fare_Cond.h : Hint := .s .n (.s (.r [(2, 0)]) .n)
theorem slices_ContainsFunc_fare_Cond_fare_Cond.e (rec_fare_Cond_holds : S_fare_Cond → S_fare_Trip → Option (Bool)) (t : TplT tab (slices_ContainsFunc_fare_Cond_fare_Cond.S rec_fare_Cond_holds).args) : (slices_ContainsFunc_fare_Cond_fare_Cond.S rec_fare_Cond_holds).fn t = Dfn tt [slices_IndexFunc_fare_Cond_fare_Cond.S rec_fare_Cond_holds] (slices_ContainsFunc_fare_Cond_fare_Cond.S rec_fare_Cond_holds) (codeOf Tryz.f106) slices_ContainsFunc_fare_Cond_fare_Cond.h t := by kernel_rfl
theorem slices_ContainsFunc_fare_Cond_fare_Cond.H (rec_fare_Cond_holds : S_fare_Cond → S_fare_Trip → Option (Bool)) (h_fare_Cond_holds : Good Tryz.prog (fare_Cond_holds.S_ rec_fare_Cond_holds)) : Good Tryz.prog (slices_ContainsFunc_fare_Cond_fare_Cond.S rec_fare_Cond_holds) := good_of ttok mixed Tryz.func106 (by kernel_rfl) (by kernel_rfl) (specs_cons (slices_IndexFunc_fare_Cond_fare_Cond.H rec_fare_Cond_holds h_fare_Cond_holds) specs_nil) (slices_ContainsFunc_fare_Cond_fare_Cond.e rec_fare_Cond_holds)
def fare_Cond_holds_3.A : Tpl := ⟨[.slot 0 (.dat (.st 2)), .slot 1 (.one (.d (.opt (.st 5))))], [], 0⟩
def fare_Cond_holds_3.R : Tpl := ⟨[.slot 3 (.one (.d .bool))], [], 2⟩
def fare_Cond_holds_3.S (rec_fare_Cond_holds : S_fare_Cond → S_fare_Trip → Option (Bool)) : Spec tab := ⟨108, fare_Cond_holds_3.A, fare_Cond_holds_3.R, [3], fun (t : TplT tab fare_Cond_holds_3.A) => fare_Cond_holds_3 rec_fare_Cond_holds t.1 t.2⟩
def fare_Cond_holds_3.h : Hint := .s .n (.s (.r [(2, 0)]) .n)
theorem fare_Cond_holds_3.e (rec_fare_Cond_holds : S_fare_Cond → S_fare_Trip → Option (Bool)) (t : TplT tab (fare_Cond_holds_3.S rec_fare_Cond_holds).args) : (fare_Cond_holds_3.S rec_fare_Cond_holds).fn t = Dfn tt [fare_Cond_holds.S_ rec_fare_Cond_holds] (fare_Cond_holds_3.S rec_fare_Cond_holds) (codeOf Tryz.f108) fare_Cond_holds_3.h t := by kernel_rfl
theorem fare_Cond_holds_3.H (rec_fare_Cond_holds : S_fare_Cond → S_fare_Trip → Option (Bool)) (h_fare_Cond_holds : Good Tryz.prog (fare_Cond_holds.S_ rec_fare_Cond_holds)) : Good Tryz.prog (fare_Cond_holds_3.S rec_fare_Cond_holds) := good_of ttok mixed Tryz.func108 (by kernel_rfl) (by kernel_rfl) (specs_cons h_fare_Cond_holds specs_nil) (fare_Cond_holds_3.e rec_fare_Cond_holds)
def slices_IndexFunc_fare_Cond_fare_Cond_v2.A : Tpl := ⟨[.slot 0 (.one (.d (.sl (.st 2)))), .slot 1 (.one (.fn 108 0 1)), .clo 0 0 (.d (.opt (.st 5)))], [], 1⟩
def slices_IndexFunc_fare_Cond_fare_Cond_v2.R : Tpl := ⟨[.slot 4 (.one (.d (.int .i64)))], [], 4⟩
def slices_IndexFunc_fare_Cond_fare_Cond_v2.S (rec_fare_Cond_holds : S_fare_Cond → S_fare_Trip → Option (Bool)) : Spec tab := ⟨128, slices_IndexFunc_fare_Cond_fare_Cond_v2.A, slices_IndexFunc_fare_Cond_fare_Cond_v2.R, [4], fun (t : TplT tab slices_IndexFunc_fare_Cond_fare_Cond_v2.A) => slices_IndexFunc_fare_Cond_fare_Cond_v2 rec_fare_Cond_holds t.1 t.2⟩
def slices_IndexFunc_fare_Cond_fare_Cond_v2.h : Hint := .s .n (.s (.s .n (.rg ⟨[.kr 5 1, .kr 10 7], [], 260⟩ true (.b (.s .n (.s (.r [(5, 0)]) .n))))) .n)
theorem slices_IndexFunc_fare_Cond_fare_Cond_v2.e (rec_fare_Cond_holds : S_fare_Cond → S_fare_Trip → Option (Bool)) (t : TplT tab (slices_IndexFunc_fare_Cond_fare_Cond_v2.S rec_fare_Cond_holds).args) : (slices_IndexFunc_fare_Cond_fare_Cond_v2.S rec_fare_Cond_holds).fn t = Dfn tt [fare_Cond_holds_3.S rec_fare_Cond_holds] (slices_IndexFunc_fare_Cond_fare_Cond_v2.S rec_fare_Cond_holds) (codeOf Tryz.f128) slices_IndexFunc_fare_Cond_fare_Cond_v2.h t := by kernel_rfl
theorem slices_IndexFunc_fare_Cond_fare_Cond_v2.H (rec_fare_Cond_holds : S_fare_Cond → S_fare_Trip → Option (Bool)) (h_fare_Cond_holds : Good Tryz.prog (fare_Cond_holds.S_ rec_fare_Cond_holds)) : Good Tryz.prog (slices_IndexFunc_fare_Cond_fare_Cond_v2.S rec_fare_Cond_holds) := good_of ttok mixed Tryz.func128 (by kernel_rfl) (by kernel_rfl) (specs_cons (fare_Cond_holds_3.H rec_fare_Cond_holds h_fare_Cond_holds) specs_nil) (slices_IndexFunc_fare_Cond_fare_Cond_v2.e rec_fare_Cond_holds)
def slices_ContainsFunc_fare_Cond_fare_Cond_v2.A : Tpl := ⟨[.slot 0 (.one (.d (.sl (.st 2)))), .slot 1 (.one (.fn 108 0 1)), .clo 0 0 (.d (.opt (.st 5)))], [], 1⟩
def slices_ContainsFunc_fare_Cond_fare_Cond_v2.R : Tpl := ⟨[.slot 4 (.one (.d .bool))], [], 4⟩
def slices_ContainsFunc_fare_Cond_fare_Cond_v2.S (rec_fare_Cond_holds : S_fare_Cond → S_fare_Trip → Option (Bool)) : Spec tab := ⟨106, slices_ContainsFunc_fare_Cond_fare_Cond_v2.A, slices_ContainsFunc_fare_Cond_fare_Cond_v2.R, [4], fun (t : TplT tab slices_ContainsFunc_fare_Cond_fare_Cond_v2.A) => slices_ContainsFunc_fare_Cond_fare_Cond_v2 rec_fare_Cond_holds t.1 t.2⟩
def slices_ContainsFunc_fare_Cond_fare_Cond_v2.h : Hint := .s .n (.s (.r [(2, 0)]) .n)
theorem slices_ContainsFunc_fare_Cond_fare_Cond_v2.e (rec_fare_Cond_holds : S_fare_Cond → S_fare_Trip → Option (Bool)) (t : TplT tab (slices_ContainsFunc_fare_Cond_fare_Cond_v2.S rec_fare_Cond_holds).args) : (slices_ContainsFunc_fare_Cond_fare_Cond_v2.S rec_fare_Cond_holds).fn t = Dfn tt [slices_IndexFunc_fare_Cond_fare_Cond_v2.S rec_fare_Cond_holds] (slices_ContainsFunc_fare_Cond_fare_Cond_v2.S rec_fare_Cond_holds) (codeOf Tryz.f106) slices_ContainsFunc_fare_Cond_fare_Cond_v2.h t := by kernel_rfl
theorem slices_ContainsFunc_fare_Cond_fare_Cond_v2.H (rec_fare_Cond_holds : S_fare_Cond → S_fare_Trip → Option (Bool)) (h_fare_Cond_holds : Good Tryz.prog (fare_Cond_holds.S_ rec_fare_Cond_holds)) : Good Tryz.prog (slices_ContainsFunc_fare_Cond_fare_Cond_v2.S rec_fare_Cond_holds) := good_of ttok mixed Tryz.func106 (by kernel_rfl) (by kernel_rfl) (specs_cons (slices_IndexFunc_fare_Cond_fare_Cond_v2.H rec_fare_Cond_holds h_fare_Cond_holds) specs_nil) (slices_ContainsFunc_fare_Cond_fare_Cond_v2.e rec_fare_Cond_holds)
def fare_Cond_holds.h : Hint := .s .n (.s .n (.s (.s .n (.b (.s .n (.c .n (.s .n (.c (.s (.r [(3, 0)]) .n) (.s .n (.c (.s (.r [(3, 0)]) .n) (.s .n (.c (.s (.r [(3, 0)]) .n) (.s .n (.c (.s (.r [(4, 0)]) .n) (.s .n (.c (.s (.r [(4, 1)]) .n) (.s .n (.c .n (.s .n (.c .n (.s .n (.c (.s (.r [(5, 2)]) .n) (.s .n (.c (.s (.r [(3, 3)]) .n) (.s .n (.c (.s (.r [(3, 4)]) .n) .n)))))))))))))))))))))))) .n))
theorem fare_Cond_holds.e (rec_ : S_fare_Cond → S_fare_Trip → Option (Bool)) (t : TplT tab (fare_Cond_holds.S_ rec_).args) : (fare_Cond_holds.S_ (fare_Cond_holds_step rec_)).fn t = Dfn tt [fare_Cond_holds_1.S, slices_Contains_int_int.S, fare_Cond_holds.S_ rec_, slices_ContainsFunc_fare_Cond_fare_Cond.S rec_, slices_ContainsFunc_fare_Cond_fare_Cond_v2.S rec_] (fare_Cond_holds.S_ (fare_Cond_holds_step rec_)) (codeOf Tryz.f74) fare_Cond_holds.h t := by kernel_rfl
def fare_Cond_holds.S : Spec tab := fare_Cond_holds.S_ (fare_Cond_holds)
theorem fare_Cond_holds.H : Good Tryz.prog (fare_Cond_holds.S) := good_rec (S := fare_Cond_holds.S_) (f := fare_Cond_holds_n) (fun t => rfl) (by kernel_rfl) (fun n h => good_of ttok mixed Tryz.func74 (by kernel_rfl) (by kernel_rfl) (specs_cons fare_Cond_holds_1.H (specs_cons slices_Contains_int_int.H (specs_cons h (specs_cons (slices_ContainsFunc_fare_Cond_fare_Cond.H (fare_Cond_holds_n n) h) (specs_cons (slices_ContainsFunc_fare_Cond_fare_Cond_v2.H (fare_Cond_holds_n n) h) specs_nil))))) (fare_Cond_holds.e (fare_Cond_holds_n n))) bigN
def fare_Rule_change.A : Tpl := ⟨[.slot 0 (.dat (.st 3)), .slot 1 (.one (.d (.int .i64)))], [], 0⟩
def fare_Rule_change.R : Tpl := ⟨[.slot 4 (.one (.d (.int .i64)))], [], 2⟩
def fare_Rule_change.S : Spec tab := ⟨75, fare_Rule_change.A, fare_Rule_change.R, [4], fun (t : TplT tab fare_Rule_change.A) => fare_Rule_change t.1 t.2⟩
def fare_Rule_change.h : Hint := .n
theorem fare_Rule_change.e (t : TplT tab (fare_Rule_change.S).args) : (fare_Rule_change.S).fn t = Dfn tt [] (fare_Rule_change.S) (codeOf Tryz.f75) fare_Rule_change.h t := by kernel_rfl
theorem fare_Rule_change.H : Good Tryz.prog (fare_Rule_change.S) := good_of ttok mixed Tryz.func75 (by kernel_rfl) (by kernel_rfl) specs_nil (fare_Rule_change.e)
def fare_Tariff_price.A : Tpl := ⟨[.slot 0 (.dat (.st 4)), .slot 1 (.dat (.st 5))], [], 0⟩
def fare_Tariff_price.R : Tpl := ⟨[.slot 4 (.one (.d (.int .i64))), .slot 5 (.one (.own 2 (.int .i64))), .arr 2 (.int .i64) 0], [(2, .arr (.int .i64))], 3⟩
def fare_Tariff_price.S : Spec tab := ⟨37, fare_Tariff_price.A, fare_Tariff_price.R, [4, 5], fun (t : TplT tab fare_Tariff_price.A) => fare_Tariff_price t.1 t.2⟩
def fare_Tariff_price.h : Hint := .s .n (.s .n (.cut ⟨[.cell 450 0 (.d (.int .i64)), .kr 15 4], [(2, .blk 25 4), (66, .blk 38 6), (450, .blk 3 1)], 578⟩ false [] .n (.s (.r [(3, 0)]) (.cut ⟨[.slot 7 (.one (.d (.int .i64))), .kr 23 6], [(2, .blk 25 4), (66, .blk 38 6), (450, .blk 3 1)], 900⟩ false [] .n (.s .n (.s .n (.s (.s .n (.rg ⟨[.slot 8 (.one (.d (.int .i64))), .slot 9 (.one (.own 1670 (.int .i64))), .arr 1670 (.int .i64) 0, .kr 10 2, .kr 40 17], [(2, .blk 25 4), (66, .blk 38 6), (450, .blk 3 1), (1670, .arr (.int .i64))], 1671⟩ false (.b (.s .n (.s (.s (.r [(3, 1)]) .n) (.s .n (.s (.r [(2, 2)]) .n))))))) .n)))))))
theorem fare_Tariff_price.e (t : TplT tab (fare_Tariff_price.S).args) : (fare_Tariff_price.S).fn t = Dfn tt [slices_IndexFunc_fare_Band_fare_Band.S, fare_Cond_holds.S, fare_Rule_change.S] (fare_Tariff_price.S) (codeOf Tryz.f37) fare_Tariff_price.h t := by kernel_rfl
theorem fare_Tariff_price.H : Good Tryz.prog (fare_Tariff_price.S) := good_of ttok mixed Tryz.func37 (by kernel_rfl) (by kernel_rfl) (specs_cons slices_IndexFunc_fare_Band_fare_Band.H (specs_cons fare_Cond_holds.H (specs_cons fare_Rule_change.H specs_nil))) (fare_Tariff_price.e)
def fare_Price.A : Tpl := ⟨[.slot 0 (.agg [.d .bool, .d (.sl (.st 1)), .d (.int .i64), .d (.sl (.st 3))]), .slot 1 (.agg [.d (.int .i64), .d (.int .i64), .d (.int .i64), .d (.int .i64), .d .bool, .d (.sl (.int .i64))])], [], 0⟩
def fare_Price.R : Tpl := ⟨[.slot 4 (.one (.d (.int .i64))), .slot 5 (.one (.own 2 (.int .i64))), .slot 6 (.one (.d (.int .i64))), .arr 2 (.int .i64) 0], [(2, .arr (.int .i64))], 3⟩
def fare_Price.S : Spec tab := ⟨12, fare_Price.A, fare_Price.R, [4, 5, 6], fun (t : TplT tab fare_Price.A) => fare_Price t.1 t.2.1 t.2.2.1 t.2.2.2.1 t.2.2.2.2.1 t.2.2.2.2.2.1 t.2.2.2.2.2.2.1 t.2.2.2.2.2.2.2.1 t.2.2.2.2.2.2.2.2.1 t.2.2.2.2.2.2.2.2.2⟩
def fare_Price.h : Hint := .s .n (.s (.s (.r [(1, 0)]) .n) (.s (.s (.r [(1, 1)]) .n) (.s (.r [(2, 2)]) .n)))
theorem fare_Price.e (t : TplT tab (fare_Price.S).args) : (fare_Price.S).fn t = Dfn tt [fare_CheckTariff.S, fare_CheckTrip.S, fare_Tariff_price.S] (fare_Price.S) (codeOf Tryz.f12) fare_Price.h t := by kernel_rfl
theorem fare_Price.H : Good Tryz.prog (fare_Price.S) := good_of ttok mixed Tryz.func12 (by kernel_rfl) (by kernel_rfl) (specs_cons fare_CheckTariff.H (specs_cons fare_CheckTrip.H (specs_cons fare_Tariff_price.H specs_nil))) (fare_Price.e)
def fishkeep2_fares.A : Tpl := ⟨[], [], 0⟩
def fishkeep2_fares.R : Tpl := ⟨[.slot 0 (.one (.d .bool))], [], 0⟩
def fishkeep2_fares.S : Spec tab := ⟨9, fishkeep2_fares.A, fishkeep2_fares.R, [0], fun _ => fishkeep2_fares⟩
def fishkeep2_fares.h : Hint := .s .n (.s .n (.s (.r [(3, 0)]) (.cut ⟨[.slot 0 (.one (.d .bool)), .kr 19 6], [(448, .blk 25 4), (770, .arr (.int .i64))], 1280⟩ false [] .n .n)))
theorem fishkeep2_fares.e (t : TplT tab (fishkeep2_fares.S).args) : (fishkeep2_fares.S).fn t = Dfn tt [fare_Price.S] (fishkeep2_fares.S) (codeOf Tryz.f9) fishkeep2_fares.h t := by kernel_rfl
theorem fishkeep2_fares.H : Good Tryz.prog (fishkeep2_fares.S) := good_of ttok mixed Tryz.func9 (by kernel_rfl) (by kernel_rfl) (specs_cons fare_Price.H specs_nil) (fishkeep2_fares.e)
def fishref2_within.A : Tpl := ⟨[.slot 0 (.one (.d (.int .i64))), .slot 1 (.one (.d (.int .i64))), .slot 2 (.one (.d (.int .i64)))], [], 0⟩
def fishref2_within.R : Tpl := ⟨[.slot 6 (.one (.d .bool))], [], 3⟩
def fishref2_within.S : Spec tab := ⟨34, fishref2_within.A, fishref2_within.R, [6], fun (t : TplT tab fishref2_within.A) => fishref2_within t.1 t.2.1 t.2.2⟩
def fishref2_within.h : Hint := .s .n (.cut ⟨[.slot 6 (.one (.d .bool)), .kr 7 8], [], 67⟩ false [] .n .n)
theorem fishref2_within.e (t : TplT tab (fishref2_within.S).args) : (fishref2_within.S).fn t = Dfn tt [] (fishref2_within.S) (codeOf Tryz.f34) fishref2_within.h t := by kernel_rfl
theorem fishref2_within.H : Good Tryz.prog (fishref2_within.S) := good_of ttok mixed Tryz.func34 (by kernel_rfl) (by kernel_rfl) specs_nil (fishref2_within.e)
def math_bits_Mul64.A : Tpl := ⟨[.slot 0 (.one (.d (.int .u64))), .slot 1 (.one (.d (.int .u64)))], [], 0⟩
def math_bits_Mul64.R : Tpl := ⟨[.slot 4 (.one (.d (.int .u64))), .slot 5 (.one (.d (.int .u64)))], [], 2⟩
def math_bits_Mul64.S : Spec tab := ⟨116, math_bits_Mul64.A, math_bits_Mul64.R, [4, 5], fun (t : TplT tab math_bits_Mul64.A) => math_bits_Mul64 t.1 t.2⟩
def math_bits_Mul64.h : Hint := .n
theorem math_bits_Mul64.e (t : TplT tab (math_bits_Mul64.S).args) : (math_bits_Mul64.S).fn t = Dfn tt [] (math_bits_Mul64.S) (codeOf Tryz.f116) math_bits_Mul64.h t := by kernel_rfl
theorem math_bits_Mul64.H : Good Tryz.prog (math_bits_Mul64.S) := good_of ttok mixed Tryz.func116 (by kernel_rfl) (by kernel_rfl) specs_nil (math_bits_Mul64.e)
def math_bits_Mul.A : Tpl := ⟨[.slot 0 (.one (.d (.int .u64))), .slot 1 (.one (.d (.int .u64)))], [], 0⟩
def math_bits_Mul.R : Tpl := ⟨[.slot 4 (.one (.d (.int .u64))), .slot 5 (.one (.d (.int .u64)))], [], 2⟩
def math_bits_Mul.S : Spec tab := ⟨88, math_bits_Mul.A, math_bits_Mul.R, [4, 5], fun (t : TplT tab math_bits_Mul.A) => math_bits_Mul t.1 t.2⟩
def math_bits_Mul.h : Hint := .s .n (.s .n (.s (.r [(2, 0)]) .n))
theorem math_bits_Mul.e (t : TplT tab (math_bits_Mul.S).args) : (math_bits_Mul.S).fn t = Dfn tt [math_bits_Mul64.S] (math_bits_Mul.S) (codeOf Tryz.f88) math_bits_Mul.h t := by kernel_rfl
theorem math_bits_Mul.H : Good Tryz.prog (math_bits_Mul.S) := good_of ttok mixed Tryz.func88 (by kernel_rfl) (by kernel_rfl) (specs_cons math_bits_Mul64.H specs_nil) (math_bits_Mul.e)
def slices_Repeat_int_int.A : Tpl := ⟨[.slot 0 (.one (.d (.sl (.int .i64)))), .slot 1 (.one (.d (.int .i64)))], [], 0⟩
def slices_Repeat_int_int.R : Tpl := ⟨[.slot 4 (.one (.own 2 (.int .i64))), .arr 2 (.int .i64) 1], [(2, .arr (.int .i64))], 3⟩
def slices_Repeat_int_int.S : Spec tab := ⟨59, slices_Repeat_int_int.A, slices_Repeat_int_int.R, [4], fun (t : TplT tab slices_Repeat_int_int.A) => slices_Repeat_int_int t.1 t.2⟩
def slices_Repeat_int_int.h : Hint := .s .n (.s .n (.s (.r [(5, 0)]) (.s (.cut ⟨[.slot 26 (.one (.d .bool)), .kr 21 5], [], 898⟩ false [] .n .n) (.s .n (.s .n (.s (.lp ⟨[.slot 8 (.one (.d (.int .i64))), .arr 1028 (.int .i64) 1, .kr 34 13], [(1028, .arr (.int .i64))], 1412⟩ ⟨[.arr 1028 (.int .i64) 1, .kr 8 1, .kr 34 13], [(1028, .arr (.int .i64))], 1412⟩ false [] (.s .n (.b (.r [(3, 0), (6, 0)])))) .n))))))
theorem slices_Repeat_int_int.e (t : TplT tab (slices_Repeat_int_int.S).args) : (slices_Repeat_int_int.S).fn t = Dfn tt [math_bits_Mul.S] (slices_Repeat_int_int.S) (codeOf Tryz.f59) slices_Repeat_int_int.h t := by kernel_rfl
theorem slices_Repeat_int_int.H : Good Tryz.prog (slices_Repeat_int_int.S) := good_of ttok mixed Tryz.func59 (by kernel_rfl) (by kernel_rfl) (specs_cons math_bits_Mul.H specs_nil) (slices_Repeat_int_int.e)
def fishref2_PackOf.A : Tpl := ⟨[.slot 0 (.one (.d (.sl (.st 0)))), .slot 1 (.one (.d (.int .i64))), .slot 2 (.one (.d (.int .i64)))], [], 0⟩
def fishref2_PackOf.R : Tpl := ⟨[.slot 6 (.one (.own 3 (.int .i64))), .slot 7 (.one (.d (.int .i64))), .arr 3 (.int .i64) 0], [(3, .arr (.int .i64))], 4⟩
def fishref2_PackOf.S : Spec tab := ⟨20, fishref2_PackOf.A, fishref2_PackOf.R, [6, 7], fun (t : TplT tab fishref2_PackOf.A) => fishref2_PackOf t.1 t.2.1 t.2.2⟩
def fishref2_PackOf.h : Hint := .s .n (.s .n (.s (.cut ⟨[.slot 26 (.one (.d .bool)), .kr 19 7], [], 323⟩ false [] (.r [(1, 0), (5, 0)]) .n) (.s (.s .n (.rg ⟨[.kr 9 1, .kr 31 18], [], 517⟩ true (.b (.s .n (.cut ⟨[.slot 48 (.one (.d .bool)), .kr 33 15], [(647, .blk 63 2)], 775⟩ false [] .n .n))))) (.s (.r [(3, 1)]) (.s (.s .n (.rg ⟨[.arr 713 (.int .i64) 1, .kr 11 5, .kr 57 54], [(713, .arr (.int .i64))], 967⟩ true (.b (.s .n (.s .n (.rg ⟨[.arr 713 (.int .i64) 1, .kr 12 4, .kr 62 48], [(713, .arr (.int .i64))], 1290⟩ true (.b (.s .n (.s .n (.s .n (.s (.s .n (.lp ⟨[.slot 14 (.one (.d (.int .i64))), .slot 15 (.one (.d (.int .i64))), .kr 69 34], [(713, .arr (.int .i64)), (1485, .blk 63 2)], 2061⟩ ⟨[.slot 14 (.one (.d (.int .i64))), .kr 15 1, .kr 69 34], [(713, .arr (.int .i64)), (1485, .blk 63 2)], 2061⟩ false [] (.s .n (.cut ⟨[.slot 14 (.one (.d (.int .i64))), .slot 15 (.one (.d (.int .i64))), .kr 75 28], [(713, .arr (.int .i64)), (1485, .blk 63 2)], 2320⟩ false [] (.b (.cut ⟨[.slot 100 (.one (.d .bool)), .kr 75 25], [(713, .arr (.int .i64)), (1485, .blk 63 2)], 2320⟩ false [] .n .n)) .n)))) .n))))))))))) .n)))))
theorem fishref2_PackOf.e (t : TplT tab (fishref2_PackOf.S).args) : (fishref2_PackOf.S).fn t = Dfn tt [fishref2_within.S, slices_Repeat_int_int.S] (fishref2_PackOf.S) (codeOf Tryz.f20) fishref2_PackOf.h t := by kernel_rfl
theorem fishref2_PackOf.H : Good Tryz.prog (fishref2_PackOf.S) := good_of ttok mixed Tryz.func20 (by kernel_rfl) (by kernel_rfl) (specs_cons fishref2_within.H (specs_cons slices_Repeat_int_int.H specs_nil)) (fishref2_PackOf.e)
def fare_span.A : Tpl := ⟨[.slot 0 (.one (.d (.int .i64))), .slot 1 (.one (.d (.int .i64))), .slot 2 (.one (.d (.int .i64)))], [], 0⟩
def fare_span.R : Tpl := ⟨[.slot 6 (.one (.d .bool))], [], 3⟩
def fare_span.S : Spec tab := ⟨60, fare_span.A, fare_span.R, [6], fun (t : TplT tab fare_span.A) => fare_span t.1 t.2.1 t.2.2⟩
def fare_span.h : Hint := .s .n (.cut ⟨[.slot 6 (.one (.d .bool)), .kr 7 12], [], 67⟩ false [] .n .n)
theorem fare_span.e (t : TplT tab (fare_span.S).args) : (fare_span.S).fn t = Dfn tt [] (fare_span.S) (codeOf Tryz.f60) fare_span.h t := by kernel_rfl
theorem fare_span.H : Good Tryz.prog (fare_span.S) := good_of ttok mixed Tryz.func60 (by kernel_rfl) (by kernel_rfl) specs_nil (fare_span.e)
def cmp_isNaN_int.A : Tpl := ⟨[.slot 0 (.one (.d (.int .i64)))], [], 0⟩
def cmp_isNaN_int.R : Tpl := ⟨[.slot 2 (.one (.d .bool))], [], 1⟩
def cmp_isNaN_int.S : Spec tab := ⟨78, cmp_isNaN_int.A, cmp_isNaN_int.R, [2], fun (t : TplT tab cmp_isNaN_int.A) => cmp_isNaN_int t⟩
def cmp_isNaN_int.h : Hint := .n
theorem cmp_isNaN_int.e (t : TplT tab (cmp_isNaN_int.S).args) : (cmp_isNaN_int.S).fn t = Dfn tt [] (cmp_isNaN_int.S) (codeOf Tryz.f78) cmp_isNaN_int.h t := by kernel_rfl
theorem cmp_isNaN_int.H : Good Tryz.prog (cmp_isNaN_int.S) := good_of ttok mixed Tryz.func78 (by kernel_rfl) (by kernel_rfl) specs_nil (cmp_isNaN_int.e)
def cmp_Compare_int.A : Tpl := ⟨[.slot 0 (.one (.d (.int .i64))), .slot 1 (.one (.d (.int .i64)))], [], 0⟩
def cmp_Compare_int.R : Tpl := ⟨[.slot 4 (.one (.d (.int .i64)))], [], 2⟩
def cmp_Compare_int.S : Spec tab := ⟨44, cmp_Compare_int.A, cmp_Compare_int.R, [4], fun (t : TplT tab cmp_Compare_int.A) => cmp_Compare_int t.1 t.2⟩
def cmp_Compare_int.h : Hint := .s .n (.s (.r [(1, 0)]) (.s (.r [(1, 0)]) .n))
theorem cmp_Compare_int.e (t : TplT tab (cmp_Compare_int.S).args) : (cmp_Compare_int.S).fn t = Dfn tt [cmp_isNaN_int.S] (cmp_Compare_int.S) (codeOf Tryz.f44) cmp_Compare_int.h t := by kernel_rfl
theorem cmp_Compare_int.H : Good Tryz.prog (cmp_Compare_int.S) := good_of ttok mixed Tryz.func44 (by kernel_rfl) (by kernel_rfl) (specs_cons cmp_isNaN_int.H specs_nil) (cmp_Compare_int.e)
def fare_Pack_1.A : Tpl := ⟨[.slot 0 (.one (.d (.int .i64))), .slot 1 (.one (.d (.int .i64))), .slot 2 (.one (.d (.opt (.sl (.st 0)))))], [], 0⟩
def fare_Pack_1.R : Tpl := ⟨[.slot 5 (.one (.d (.int .i64)))], [], 3⟩
def fare_Pack_1.S : Spec tab := ⟨61, fare_Pack_1.A, fare_Pack_1.R, [5], fun (t : TplT tab fare_Pack_1.A) => fare_Pack_1 t.1 t.2.1 t.2.2⟩
def fare_Pack_1.h : Hint := .s .n (.s (.r [(10, 0)]) .n)
theorem fare_Pack_1.e (t : TplT tab (fare_Pack_1.S).args) : (fare_Pack_1.S).fn t = Dfn tt [cmp_Compare_int.S] (fare_Pack_1.S) (codeOf Tryz.f61) fare_Pack_1.h t := by kernel_rfl
theorem fare_Pack_1.H : Good Tryz.prog (fare_Pack_1.S) := good_of ttok mixed Tryz.func61 (by kernel_rfl) (by kernel_rfl) (specs_cons cmp_Compare_int.H specs_nil) (fare_Pack_1.e)
def slices_insertionSortCmpFunc_int.A : Tpl := ⟨[.slot 0 (.one (.own 0 (.int .i64))), .slot 1 (.one (.d (.int .i64))), .slot 2 (.one (.d (.int .i64))), .slot 3 (.one (.fn 61 1 1)), .arr 0 (.int .i64) 0, .clo 1 0 (.d (.opt (.sl (.st 0))))], [(0, .arr (.int .i64))], 2⟩
def slices_insertionSortCmpFunc_int.R : Tpl := ⟨[.arr 0 (.int .i64) 0], [(0, .arr (.int .i64))], 8⟩
def slices_insertionSortCmpFunc_int.S : Spec tab := ⟨113, slices_insertionSortCmpFunc_int.A, slices_insertionSortCmpFunc_int.R, [], fun (t : TplT tab slices_insertionSortCmpFunc_int.A) => slices_insertionSortCmpFunc_int t.1 t.2.1 t.2.2.1 t.2.2.2⟩
def slices_insertionSortCmpFunc_int.h : Hint := .s .n (.lp ⟨[.slot 8 (.one (.d (.int .i64))), .arr 0 (.int .i64) 0, .kr 9 1, .kr 12 41], [(0, .arr (.int .i64))], 200⟩ ⟨[.arr 0 (.int .i64) 0, .kr 8 2, .kr 12 41], [(0, .arr (.int .i64))], 200⟩ false [] (.s .n (.s (.b (.s .n (.lp ⟨[.slot 9 (.one (.d (.int .i64))), .arr 0 (.int .i64) 0, .kr 18 35], [(0, .arr (.int .i64))], 524⟩ ⟨[.arr 0 (.int .i64) 0, .kr 9 1, .kr 18 35], [(0, .arr (.int .i64))], 524⟩ false [] (.s (.cut ⟨[.slot 34 (.one (.d .bool)), .kr 18 16], [(0, .arr (.int .i64))], 527⟩ false [] (.r [(14, 0)]) .n) .n)))) .n)))
theorem slices_insertionSortCmpFunc_int.e (t : TplT tab (slices_insertionSortCmpFunc_int.S).args) : (slices_insertionSortCmpFunc_int.S).fn t = Dfn tt [fare_Pack_1.S] (slices_insertionSortCmpFunc_int.S) (codeOf Tryz.f113) slices_insertionSortCmpFunc_int.h t := by kernel_rfl
theorem slices_insertionSortCmpFunc_int.H : Good Tryz.prog (slices_insertionSortCmpFunc_int.S) := good_of ttok mixed Tryz.func113 (by kernel_rfl) (by kernel_rfl) (specs_cons fare_Pack_1.H specs_nil) (slices_insertionSortCmpFunc_int.e)
def slices_swapRangeCmpFunc_int.A : Tpl := ⟨[.slot 0 (.one (.own 0 (.int .i64))), .slot 1 (.one (.d (.int .i64))), .slot 2 (.one (.d (.int .i64))), .slot 3 (.one (.d (.int .i64))), .slot 4 (.one (.fn 61 1 1)), .arr 0 (.int .i64) 0, .clo 1 0 (.d (.opt (.sl (.st 0))))], [(0, .arr (.int .i64))], 2⟩
def slices_swapRangeCmpFunc_int.R : Tpl := ⟨[.arr 0 (.int .i64) 0], [(0, .arr (.int .i64))], 9⟩
def slices_swapRangeCmpFunc_int.S : Spec tab := ⟨170, slices_swapRangeCmpFunc_int.A, slices_swapRangeCmpFunc_int.R, [], fun (t : TplT tab slices_swapRangeCmpFunc_int.A) => slices_swapRangeCmpFunc_int t.1 t.2.1 t.2.2.1 t.2.2.2.1 t.2.2.2.2⟩
def slices_swapRangeCmpFunc_int.h : Hint := .s .n (.lp ⟨[.slot 10 (.one (.d (.int .i64))), .arr 0 (.int .i64) 0, .kr 11 27], [(0, .arr (.int .i64))], 73⟩ ⟨[.arr 0 (.int .i64) 0, .kr 10 28], [(0, .arr (.int .i64))], 73⟩ false [] .n)
theorem slices_swapRangeCmpFunc_int.e (t : TplT tab (slices_swapRangeCmpFunc_int.S).args) : (slices_swapRangeCmpFunc_int.S).fn t = Dfn tt [] (slices_swapRangeCmpFunc_int.S) (codeOf Tryz.f170) slices_swapRangeCmpFunc_int.h t := by kernel_rfl
theorem slices_swapRangeCmpFunc_int.H : Good Tryz.prog (slices_swapRangeCmpFunc_int.S) := good_of ttok mixed Tryz.func170 (by kernel_rfl) (by kernel_rfl) specs_nil (slices_swapRangeCmpFunc_int.e)
def slices_rotateCmpFunc_int.A : Tpl := ⟨[.slot 0 (.one (.own 0 (.int .i64))), .slot 1 (.one (.d (.int .i64))), .slot 2 (.one (.d (.int .i64))), .slot 3 (.one (.d (.int .i64))), .slot 4 (.one (.fn 61 1 1)), .arr 0 (.int .i64) 0, .clo 1 0 (.d (.opt (.sl (.st 0))))], [(0, .arr (.int .i64))], 2⟩
def slices_rotateCmpFunc_int.R : Tpl := ⟨[.arr 0 (.int .i64) 0], [(0, .arr (.int .i64))], 9⟩
def slices_rotateCmpFunc_int.S : Spec tab := ⟨139, slices_rotateCmpFunc_int.A, slices_rotateCmpFunc_int.R, [], fun (t : TplT tab slices_rotateCmpFunc_int.A) => slices_rotateCmpFunc_int t.1 t.2.1 t.2.2.1 t.2.2.2.1 t.2.2.2.2⟩
def slices_rotateCmpFunc_int.h : Hint := .s .n (.s .n (.s (.lp ⟨[.slot 10 (.one (.d (.int .i64))), .slot 11 (.one (.d (.int .i64))), .arr 0 (.int .i64) 0, .kr 18 32], [(0, .arr (.int .i64))], 521⟩ ⟨[.slot 10 (.one (.d (.int .i64))), .arr 0 (.int .i64) 0, .kr 11 1, .kr 18 32], [(0, .arr (.int .i64))], 521⟩ false [] (.s .n (.b (.s .n (.c (.s (.r [(7, 0)]) .n) (.s (.r [(11, 0)]) .n)))))) (.r [(7, 0)])))
theorem slices_rotateCmpFunc_int.e (t : TplT tab (slices_rotateCmpFunc_int.S).args) : (slices_rotateCmpFunc_int.S).fn t = Dfn tt [slices_swapRangeCmpFunc_int.S] (slices_rotateCmpFunc_int.S) (codeOf Tryz.f139) slices_rotateCmpFunc_int.h t := by kernel_rfl
theorem slices_rotateCmpFunc_int.H : Good Tryz.prog (slices_rotateCmpFunc_int.S) := good_of ttok mixed Tryz.func139 (by kernel_rfl) (by kernel_rfl) (specs_cons slices_swapRangeCmpFunc_int.H specs_nil) (slices_rotateCmpFunc_int.e)
def slices_symMergeCmpFunc_int.A : Tpl := ⟨[.slot 0 (.one (.own 0 (.int .i64))), .slot 1 (.one (.d (.int .i64))), .slot 2 (.one (.d (.int .i64))), .slot 3 (.one (.d (.int .i64))), .slot 4 (.one (.fn 61 1 1)), .arr 0 (.int .i64) 0, .clo 1 0 (.d (.opt (.sl (.st 0))))], [(0, .arr (.int .i64))], 2⟩
def slices_symMergeCmpFunc_int.R : Tpl := ⟨[.arr 0 (.int .i64) 0], [(0, .arr (.int .i64))], 9⟩
def slices_symMergeCmpFunc_int.S_ (rec_ : Int → Int → Int → List Int → Option (List S_fare_Span) → Option (List Int)) : Spec tab := ⟨114, slices_symMergeCmpFunc_int.A, slices_symMergeCmpFunc_int.R, [], fun (t : TplT tab slices_symMergeCmpFunc_int.A) => rec_ t.1 t.2.1 t.2.2.1 t.2.2.2.1 t.2.2.2.2⟩
def slices_symMergeCmpFunc_int.h : Hint := .s (.s .n (.c (.s .n (.s .n (.s (.lp ⟨[.slot 10 (.one (.d (.int .i64))), .slot 11 (.one (.d (.int .i64))), .kr 12 1, .kr 31 23], [(0, .arr (.int .i64))], 521⟩ ⟨[.slot 10 (.one (.d (.int .i64))), .kr 11 2, .kr 31 23], [(0, .arr (.int .i64))], 521⟩ false [] (.s .n (.b (.s .n (.s (.r [(9, 0)]) .n))))) (.s (.s .n (.lp ⟨[.slot 13 (.one (.d (.int .i64))), .arr 0 (.int .i64) 0, .kr 55 22], [(0, .arr (.int .i64))], 652⟩ ⟨[.arr 0 (.int .i64) 0, .kr 13 1, .kr 55 22], [(0, .arr (.int .i64))], 652⟩ false [] .n)) .n)))) .n)) (.s (.s .n (.c (.s .n (.s .n (.s (.lp ⟨[.slot 14 (.one (.d (.int .i64))), .slot 15 (.one (.d (.int .i64))), .kr 16 1, .kr 83 24], [(0, .arr (.int .i64))], 777⟩ ⟨[.slot 14 (.one (.d (.int .i64))), .kr 15 2, .kr 83 24], [(0, .arr (.int .i64))], 777⟩ false [] (.s .n (.b (.s .n (.s (.r [(9, 0)]) .n))))) (.s (.s .n (.lp ⟨[.slot 17 (.one (.d (.int .i64))), .arr 0 (.int .i64) 0, .kr 108 21], [(0, .arr (.int .i64))], 908⟩ ⟨[.arr 0 (.int .i64) 0, .kr 17 1, .kr 108 21], [(0, .arr (.int .i64))], 908⟩ false [] .n)) .n)))) .n)) (.s .n (.s .n (.s .n (.cut ⟨[.slot 20 (.one (.d (.int .i64))), .slot 21 (.one (.d (.int .i64))), .kr 138 9], [(0, .arr (.int .i64))], 1353⟩ false [] .n (.s .n (.s (.lp ⟨[.slot 20 (.one (.d (.int .i64))), .slot 21 (.one (.d (.int .i64))), .kr 23 1, .kr 149 26], [(0, .arr (.int .i64))], 1548⟩ ⟨[.slot 20 (.one (.d (.int .i64))), .kr 21 1, .kr 23 1, .kr 149 26], [(0, .arr (.int .i64))], 1548⟩ false [] (.s .n (.b (.s .n (.s (.r [(11, 0)]) .n))))) (.s .n (.cut ⟨[.arr 0 (.int .i64) 0, .kr 178 14], [(0, .arr (.int .i64))], 1808⟩ false [] (.cut ⟨[.slot 185 (.one (.d .bool)), .kr 178 7], [(0, .arr (.int .i64))], 1808⟩ false [] .n (.c (.r [(5, 1)]) .n)) (.cut ⟨[.arr 0 (.int .i64) 0, .kr 192 14], [(0, .arr (.int .i64))], 1810⟩ false [] (.cut ⟨[.slot 199 (.one (.d .bool)), .kr 192 7], [(0, .arr (.int .i64))], 1810⟩ false [] .n (.c (.r [(5, 2)]) .n)) (.cut ⟨[.slot 213 (.one (.d .bool)), .kr 206 7], [(0, .arr (.int .i64))], 1812⟩ false [] .n (.c (.r [(5, 2)]) .n))))))))))))
theorem slices_symMergeCmpFunc_int.e (rec_ : Int → Int → Int → List Int → Option (List S_fare_Span) → Option (List Int)) (t : TplT tab (slices_symMergeCmpFunc_int.S_ rec_).args) : (slices_symMergeCmpFunc_int.S_ (slices_symMergeCmpFunc_int_step rec_)).fn t = Dfn tt [fare_Pack_1.S, slices_rotateCmpFunc_int.S, slices_symMergeCmpFunc_int.S_ rec_] (slices_symMergeCmpFunc_int.S_ (slices_symMergeCmpFunc_int_step rec_)) (codeOf Tryz.f114) slices_symMergeCmpFunc_int.h t := by kernel_rfl
def slices_symMergeCmpFunc_int.S : Spec tab := slices_symMergeCmpFunc_int.S_ (slices_symMergeCmpFunc_int)
theorem slices_symMergeCmpFunc_int.H : Good Tryz.prog (slices_symMergeCmpFunc_int.S) := good_rec (S := slices_symMergeCmpFunc_int.S_) (f := slices_symMergeCmpFunc_int_n) (fun t => rfl) (by kernel_rfl) (fun n h => good_of ttok mixed Tryz.func114 (by kernel_rfl) (by kernel_rfl) (specs_cons fare_Pack_1.H (specs_cons slices_rotateCmpFunc_int.H (specs_cons h specs_nil))) (slices_symMergeCmpFunc_int.e (slices_symMergeCmpFunc_int_n n))) bigN
def slices_stableCmpFunc_int.A : Tpl := ⟨[.slot 0 (.one (.own 0 (.int .i64))), .slot 1 (.one (.d (.int .i64))), .slot 2 (.one (.fn 61 1 1)), .arr 0 (.int .i64) 0, .clo 1 0 (.d (.opt (.sl (.st 0))))], [(0, .arr (.int .i64))], 2⟩
def slices_stableCmpFunc_int.R : Tpl := ⟨[.arr 0 (.int .i64) 0], [(0, .arr (.int .i64))], 7⟩
def slices_stableCmpFunc_int.S : Spec tab := ⟨87, slices_stableCmpFunc_int.A, slices_stableCmpFunc_int.R, [], fun (t : TplT tab slices_stableCmpFunc_int.A) => slices_stableCmpFunc_int t.1 t.2.1 t.2.2⟩
def slices_stableCmpFunc_int.h : Hint := .s .n (.s .n (.s (.lp ⟨[.slot 7 (.one (.d (.int .i64))), .slot 8 (.one (.d (.int .i64))), .arr 0 (.int .i64) 0, .kr 11 12], [(0, .arr (.int .i64))], 263⟩ ⟨[.slot 7 (.one (.d (.int .i64))), .arr 0 (.int .i64) 0, .kr 8 1, .kr 11 12], [(0, .arr (.int .i64))], 263⟩ false [] (.s .n (.b (.s (.r [(4, 0)]) .n)))) (.s (.r [(4, 0)]) (.lp ⟨[.slot 6 (.one (.d (.int .i64))), .arr 0 (.int .i64) 0, .kr 7 3, .kr 28 35], [(0, .arr (.int .i64))], 587⟩ ⟨[.arr 0 (.int .i64) 0, .kr 6 4, .kr 28 35], [(0, .arr (.int .i64))], 587⟩ false [] (.s .n (.b (.s .n (.s (.lp ⟨[.slot 7 (.one (.d (.int .i64))), .slot 8 (.one (.d (.int .i64))), .arr 0 (.int .i64) 0, .kr 33 16], [(0, .arr (.int .i64))], 1039⟩ ⟨[.slot 7 (.one (.d (.int .i64))), .arr 0 (.int .i64) 0, .kr 8 1, .kr 33 16], [(0, .arr (.int .i64))], 1039⟩ false [] (.s .n (.b (.s (.r [(7, 1)]) .n)))) (.cut ⟨[.arr 0 (.int .i64) 0, .kr 9 1, .kr 49 12], [(0, .arr (.int .i64))], 1043⟩ false [] (.s .n (.s .n (.c (.r [(5, 1)]) .n))) .n)))))))))
theorem slices_stableCmpFunc_int.e (t : TplT tab (slices_stableCmpFunc_int.S).args) : (slices_stableCmpFunc_int.S).fn t = Dfn tt [slices_insertionSortCmpFunc_int.S, slices_symMergeCmpFunc_int.S] (slices_stableCmpFunc_int.S) (codeOf Tryz.f87) slices_stableCmpFunc_int.h t := by kernel_rfl
theorem slices_stableCmpFunc_int.H : Good Tryz.prog (slices_stableCmpFunc_int.S) := good_of ttok mixed Tryz.func87 (by kernel_rfl) (by kernel_rfl) (specs_cons slices_insertionSortCmpFunc_int.H (specs_cons slices_symMergeCmpFunc_int.H specs_nil)) (slices_stableCmpFunc_int.e)
def slices_SortStableFunc_int_int.A : Tpl := ⟨[.slot 0 (.one (.own 0 (.int .i64))), .slot 1 (.one (.fn 61 1 1)), .arr 0 (.int .i64) 0, .clo 1 0 (.d (.opt (.sl (.st 0))))], [(0, .arr (.int .i64))], 2⟩
def slices_SortStableFunc_int_int.R : Tpl := ⟨[.arr 0 (.int .i64) 0], [(0, .arr (.int .i64))], 6⟩
def slices_SortStableFunc_int_int.S : Spec tab := ⟨57, slices_SortStableFunc_int_int.A, slices_SortStableFunc_int_int.R, [], fun (t : TplT tab slices_SortStableFunc_int_int.A) => slices_SortStableFunc_int_int t.1 t.2⟩
def slices_SortStableFunc_int_int.h : Hint := .r [(4, 0)]
theorem slices_SortStableFunc_int_int.e (t : TplT tab (slices_SortStableFunc_int_int.S).args) : (slices_SortStableFunc_int_int.S).fn t = Dfn tt [slices_stableCmpFunc_int.S] (slices_SortStableFunc_int_int.S) (codeOf Tryz.f57) slices_SortStableFunc_int_int.h t := by kernel_rfl
theorem slices_SortStableFunc_int_int.H : Good Tryz.prog (slices_SortStableFunc_int_int.S) := good_of ttok mixed Tryz.func57 (by kernel_rfl) (by kernel_rfl) (specs_cons slices_stableCmpFunc_int.H specs_nil) (slices_SortStableFunc_int_int.e)
def fare_Pack_2.A : Tpl := ⟨[.slot 0 (.one (.d (.int .i64))), .slot 1 (.one (.d (.opt (.sl (.st 0))))), .slot 2 (.one (.d (.opt (.int .i64))))], [], 0⟩
def fare_Pack_2.R : Tpl := ⟨[.slot 4 (.one (.d .bool))], [], 3⟩
def fare_Pack_2.S : Spec tab := ⟨63, fare_Pack_2.A, fare_Pack_2.R, [4], fun (t : TplT tab fare_Pack_2.A) => fare_Pack_2 t.1 t.2.1 t.2.2⟩
def fare_Pack_2.h : Hint := .n
theorem fare_Pack_2.e (t : TplT tab (fare_Pack_2.S).args) : (fare_Pack_2.S).fn t = Dfn tt [] (fare_Pack_2.S) (codeOf Tryz.f63) fare_Pack_2.h t := by kernel_rfl
theorem fare_Pack_2.H : Good Tryz.prog (fare_Pack_2.S) := good_of ttok mixed Tryz.func63 (by kernel_rfl) (by kernel_rfl) specs_nil (fare_Pack_2.e)
def slices_IndexFunc_int_int.A : Tpl := ⟨[.slot 0 (.one (.d (.sl (.int .i64)))), .slot 1 (.one (.fn 63 0 2)), .clo 0 0 (.d (.opt (.sl (.st 0)))), .clo 0 1 (.d (.opt (.int .i64)))], [], 1⟩
def slices_IndexFunc_int_int.R : Tpl := ⟨[.slot 4 (.one (.d (.int .i64)))], [], 5⟩
def slices_IndexFunc_int_int.S : Spec tab := ⟨62, slices_IndexFunc_int_int.A, slices_IndexFunc_int_int.R, [4], fun (t : TplT tab slices_IndexFunc_int_int.A) => slices_IndexFunc_int_int t.1 t.2.1 t.2.2⟩
def slices_IndexFunc_int_int.h : Hint := .s .n (.s (.s .n (.rg ⟨[.kr 5 1, .kr 10 7], [], 261⟩ true (.b (.s .n (.s (.r [(5, 0)]) .n))))) .n)
theorem slices_IndexFunc_int_int.e (t : TplT tab (slices_IndexFunc_int_int.S).args) : (slices_IndexFunc_int_int.S).fn t = Dfn tt [fare_Pack_2.S] (slices_IndexFunc_int_int.S) (codeOf Tryz.f62) slices_IndexFunc_int_int.h t := by kernel_rfl
theorem slices_IndexFunc_int_int.H : Good Tryz.prog (slices_IndexFunc_int_int.S) := good_of ttok mixed Tryz.func62 (by kernel_rfl) (by kernel_rfl) (specs_cons fare_Pack_2.H specs_nil) (slices_IndexFunc_int_int.e)
def fare_Pack.A : Tpl := ⟨[.slot 0 (.one (.d (.sl (.st 0)))), .slot 1 (.one (.d (.int .i64))), .slot 2 (.one (.d (.int .i64)))], [], 0⟩
def fare_Pack.R : Tpl := ⟨[.slot 6 (.one (.own 3 (.int .i64))), .slot 7 (.one (.d (.int .i64))), .arr 3 (.int .i64) 0], [(3, .arr (.int .i64))], 4⟩
def fare_Pack.S : Spec tab := ⟨21, fare_Pack.A, fare_Pack.R, [6, 7], fun (t : TplT tab fare_Pack.A) => fare_Pack t.1 t.2.1 t.2.2⟩
def fare_Pack.h : Hint := .s .n (.s .n (.s (.cut ⟨[.slot 26 (.one (.d .bool)), .kr 19 7], [(3, .blk 60 1)], 387⟩ false [] (.r [(1, 0), (5, 0)]) .n) (.s .n (.s (.s .n (.rg ⟨[.arr 517 (.int .i64) 1, .kr 9 2, .kr 34 14], [(3, .blk 60 1), (517, .arr (.int .i64))], 837⟩ true (.b (.s .n (.s (.s (.r [(5, 1)]) .n) .n))))) (.s (.r [(2, 2)]) (.s .n (.s .n (.s (.s .n (.rg ⟨[.arr 1096 (.int .i64) 1, .arr 1352 (.int .i64) 1, .kr 14 2, .kr 61 19], [(517, .arr (.int .i64)), (1096, .arr (.int .i64)), (1352, .arr (.int .i64))], 1672⟩ true (.b (.s .n (.s (.r [(2, 3)]) .n))))) .n))))))))
theorem fare_Pack.e (t : TplT tab (fare_Pack.S).args) : (fare_Pack.S).fn t = Dfn tt [fare_within.S, fare_span.S, slices_SortStableFunc_int_int.S, slices_IndexFunc_int_int.S] (fare_Pack.S) (codeOf Tryz.f21) fare_Pack.h t := by kernel_rfl
theorem fare_Pack.H : Good Tryz.prog (fare_Pack.S) := good_of ttok mixed Tryz.func21 (by kernel_rfl) (by kernel_rfl) (specs_cons fare_within.H (specs_cons fare_span.H (specs_cons slices_SortStableFunc_int_int.H (specs_cons slices_IndexFunc_int_int.H specs_nil)))) (fare_Pack.e)
def slices_Max_int_int.A : Tpl := ⟨[.slot 0 (.one (.d (.sl (.int .i64))))], [], 0⟩
def slices_Max_int_int.R : Tpl := ⟨[.slot 2 (.one (.d (.int .i64)))], [], 1⟩
def slices_Max_int_int.S : Spec tab := ⟨22, slices_Max_int_int.A, slices_Max_int_int.R, [2], fun (t : TplT tab slices_Max_int_int.A) => slices_Max_int_int t⟩
def slices_Max_int_int.h : Hint := .s .n (.s .n (.s .n (.s (.s .n (.lp ⟨[.slot 3 (.one (.d (.int .i64))), .slot 4 (.one (.d (.int .i64))), .kr 12 12], [], 577⟩ ⟨[.slot 3 (.one (.d (.int .i64))), .kr 4 1, .kr 12 12], [], 577⟩ false [] .n)) .n)))
theorem slices_Max_int_int.e (t : TplT tab (slices_Max_int_int.S).args) : (slices_Max_int_int.S).fn t = Dfn tt [] (slices_Max_int_int.S) (codeOf Tryz.f22) slices_Max_int_int.h t := by kernel_rfl
theorem slices_Max_int_int.H : Good Tryz.prog (slices_Max_int_int.S) := good_of ttok mixed Tryz.func22 (by kernel_rfl) (by kernel_rfl) specs_nil (slices_Max_int_int.e)
def fishkeep2_FarePacked.A : Tpl := ⟨[.slot 0 (.one (.d (.sl (.st 0)))), .slot 1 (.one (.d (.int .i64))), .slot 2 (.one (.d (.int .i64)))], [], 0⟩
def fishkeep2_FarePacked.R : Tpl := ⟨[.slot 6 (.one (.d .bool))], [], 3⟩
def fishkeep2_FarePacked.S : Spec tab := ⟨6, fishkeep2_FarePacked.A, fishkeep2_FarePacked.R, [6], fun (t : TplT tab fishkeep2_FarePacked.A) => fishkeep2_FarePacked t.1 t.2.1 t.2.2⟩
def fishkeep2_FarePacked.h : Hint := .s .n (.s (.s (.r [(0, 0)]) .n) (.s (.s (.r [(0, 1)]) .n) (.s (.s (.r [(3, 2)]) (.cut ⟨[.slot 36 (.one (.d .bool)), .kr 31 5], [(518, .arr (.int .i64))], 899⟩ false [] .n .n)) (.s .n (.s (.s .n (.rg ⟨[.slot 9 (.one (.d (.int .i64))), .kr 10 2, .kr 13 1, .kr 40 23], [(518, .arr (.int .i64))], 1093⟩ false (.b (.s .n (.s .n (.s (.s .n (.rg ⟨[.slot 11 (.one (.d (.int .i64))), .kr 13 1, .kr 45 14], [(518, .arr (.int .i64))], 1481⟩ false (.b (.s .n (.cut ⟨[.slot 56 (.one (.d .bool)), .kr 47 9], [(518, .arr (.int .i64)), (1612, .blk 63 2)], 1740⟩ false [] .n .n))))) .n)))))) (.s (.r [(3, 3)]) (.s (.s .n (.c (.cut ⟨[.slot 6 (.one (.d .bool)), .kr 74 7], [(518, .arr (.int .i64)), (1292, .arr (.int .i64))], 1865⟩ false [] .n .n) .n)) (.s (.cut ⟨[.slot 101 (.one (.d .bool)), .kr 81 20], [(518, .arr (.int .i64)), (1292, .arr (.int .i64))], 1865⟩ false [] (.r [(15, 4)]) .n) (.s (.s .n (.rg ⟨[.kr 16 4, .kr 106 36], [(518, .arr (.int .i64)), (1292, .arr (.int .i64))], 2059⟩ true (.b (.s .n (.s .n (.rg ⟨[.kr 18 2, .kr 115 26], [(518, .arr (.int .i64)), (1292, .arr (.int .i64)), (2253, .blk 63 2)], 2765⟩ true (.b (.s .n (.cut ⟨[.slot 140 (.one (.d .bool)), .kr 118 22], [(518, .arr (.int .i64)), (1292, .arr (.int .i64)), (2253, .blk 63 2), (2959, .blk 63 2)], 3151⟩ false [] .n .n))))))))) .n)))))))))
theorem fishkeep2_FarePacked.e (t : TplT tab (fishkeep2_FarePacked.S).args) : (fishkeep2_FarePacked.S).fn t = Dfn tt [fishkeep2_awakeFare.S, fishkeep2_fares.S, fishref2_PackOf.S, fare_Pack.S, slices_Max_int_int.S] (fishkeep2_FarePacked.S) (codeOf Tryz.f6) fishkeep2_FarePacked.h t := by kernel_rfl
theorem fishkeep2_FarePacked.H : Good Tryz.prog (fishkeep2_FarePacked.S) := good_of ttok mixed Tryz.func6 (by kernel_rfl) (by kernel_rfl) (specs_cons fishkeep2_awakeFare.H (specs_cons fishkeep2_fares.H (specs_cons fishref2_PackOf.H (specs_cons fare_Pack.H (specs_cons slices_Max_int_int.H specs_nil))))) (fishkeep2_FarePacked.e)
end Hd
