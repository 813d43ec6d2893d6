/- Functions of the program as plain functions, with proofs that each call returns what its plain function gives. Printed by a tool. -/
import Derived.Test.YtcidamhhffgipaaMLd
set_option linter.unusedVariables false
set_option linter.unusedSimpArgs false
set_option maxRecDepth 20000
set_option maxHeartbeats 2000000
namespace Hk
open Go Go.Proofs
def fishkeep2_MendLeast_b11 (x564 : List Int × Int) (i1044 : Nat) (x1045 : Int) (i1134 : Nat) (x1135 : S_mend_Arc) (s1098 : Bool) : Option (Ctl (Bool) (Ctl (Bool) (Empty))) :=
  ((ifb s1098 (some true) (ifb (x1135.To == (i1044 : Int)) ((idx x564.1 x1135.From).bind fun (x1191 : Int) => (some (x1045 == (w64 (x1191 + x1135.Len))))) (some false))).bind fun (s1164 : Bool) => (some (.go s1164)))
def fishkeep2_MendLeast_b13 (x564 : List Int × Int) (x1457 : List Int × Int) (i1499 : Nat) (x1500 : Int) (s1467 : Unit) : Option (Ctl (Unit) (Ctl (Unit) (Bool))) :=
  ((ifb ((x1457.1.length : Int) != (x564.1.length : Int)) (some true) ((idx x1457.1 (i1499 : Int)).bind fun (x1545 : Int) => (some (decide (x1545 < x1500))))).bind fun (s1524 : Bool) => (ifb s1524 (some (.out (.out false))) (some (.go ()))))
def fishkeep2_MendLeast_b12  (i1379 : Nat) (x1380 : Int) (s1329 : List Int) : Option (Ctl (List Int) (Ctl (List Int) (Empty))) :=
  (((idx s1329 (i1379 : Int)).bind fun (x1429 : Int) => (ifb (x1429 == 0) (some (setI s1329 (i1379 : Int) x1380)) (some s1329))).bind fun (s1413 : List Int) => (some (.go s1413)))
def fishkeep2_MendLeast_b10 (p1 : S_mend_Graph) (x564 : List Int × Int) (s658 : List S_mend_Arc) (i1044 : Nat) (x1045 : Int) (s922 : Unit) : Option (Ctl (Unit) (Ctl (Unit) (Bool))) :=
  ((idx p1.Ready (i1044 : Int)).bind fun (x1056 : Int) => ((forC (fishkeep2_MendLeast_b11 x564 i1044 x1045) s658 (x1045 == x1056)).bind fun c1132 => Ctl.on c1132 (fun s1098 => ((ifb (!s1098) (some true) (ifb (decide (x1045 < x1056)) (some true) ((idx p1.Last (i1044 : Int)).bind fun (x1249 : Int) => (ifb (decide (x1249 ≥ 0)) (some (decide (x1045 > x1249))) (some false))))).bind fun (s1236 : Bool) => (ifb s1236 (some (.out (.out false))) (some (.go ()))))) (fun x_ => x_.elim)))
def fishkeep2_MendLeast_b8 (x564 : List Int × Int) (i866 : Nat) (x867 : S_mend_Arc) (s831 : Unit) : Option (Ctl (Unit) (Ctl (Unit) (Bool))) :=
  ((idx x564.1 x867.To).bind fun (x898 : Int) => ((idx x564.1 x867.From).bind fun (x906 : Int) => (ifb (decide (x898 < (w64 (x906 + x867.Len)))) (some (.out (.out false))) (some (.go ())))))
def fishkeep2_MendLeast_b7 (p1 : S_mend_Graph) (i723 : Nat) (x724 : Int) (s658 : List S_mend_Arc) : Option (Ctl (List S_mend_Arc) (Ctl (List S_mend_Arc) (Empty))) :=
  ((ifb (decide (x724 > 0)) ((idx p1.Choices (i723 : Int)).bind fun (x789 : S_mend_Choice) => ((idx x789.Ways (w64 (x724 - 1))).bind fun (x801 : List S_mend_Arc) => ((gapp 24 s658 x801).bind fun (x813 : List S_mend_Arc) => (some x813)))) (some s658)).bind fun (s772 : List S_mend_Arc) => (some (.go s772)))
def fishkeep2_MendLeast (p1 : S_mend_Graph) (p22 : List Int) (p27 : List Int) : Option (Bool) :=
  ((fishkeep2_awakeMend).bind fun (x517 : Bool) => (ifb (!x517) (some false) ((fishkeep2_graphs).bind fun (x523 : Bool) => (ifb (!x523) (some false) (((fishref2_PickFault p1 p22).bind fun (x549 : Int) => (ifb (x549 != 0) (some true) ((fishref2_PickFault p1 p27).bind fun (x555 : Int) => (some (x555 != 0))))).bind fun (s544 : Bool) => (ifb s544 (some true) ((mend_Times p1 p22).bind fun (x564 : List Int × Int) => (ifb (x564.2 != 0) ((ifb (x564.2 == 5) (some ((x564.1.length : Int) == 0)) (some false)).bind fun (s579 : Bool) => (some s579)) (ifb ((x564.1.length : Int) != (p1.Ready.length : Int)) (some false) ((slices_Clone_mend_Arc_mend_Arc_v2 p1.Arcs).bind fun (x589 : List S_mend_Arc) => ((forC (fishkeep2_MendLeast_b7 p1) p22 x589).bind fun c721 => Ctl.on c721 (fun s658 => ((forC (fishkeep2_MendLeast_b8 x564) s658 ()).bind fun c864 => Ctl.on c864 (fun s831 => ((forC (fishkeep2_MendLeast_b10 p1 x564 s658) x564.1 ()).bind fun c1042 => Ctl.on c1042 (fun s922 => ((slices_Clone_int_int p22).bind fun (x1275 : List Int) => ((forC fishkeep2_MendLeast_b12 p27 x1275).bind fun c1377 => Ctl.on c1377 (fun s1329 => ((mend_Times p1 s1329).bind fun (x1457 : List Int × Int) => (ifb (x1457.2 != 0) (some (x1457.2 == 5)) ((forC (fishkeep2_MendLeast_b13 x564 x1457) x564.1 ()).bind fun c1497 => Ctl.on c1497 (fun s1467 => (some true)) (fun x1572 => (some x1572)))))) (fun x_ => x_.elim)))) (fun x1576 => (some x1576)))) (fun x1580 => (some x1580)))) (fun x_ => x_.elim))))))))))))
def fishkeep2_MendLeast.R (G : World) (f : HP) (L : List HProp) (A2 : Option Addr) (n3 : Nat) (c4 : Nat) (A6 : Option Addr) (n7 : Nat) (c8 : Nat) (A10 : Option Addr) (n11 : Nat) (c12 : Nat) (A14 : Option Addr) (n15 : Nat) (c16 : Nat) (A18 : Option Addr) (n19 : Nat) (c20 : Nat) (A23 : Option Addr) (n24 : Nat) (c25 : Nat) (A28 : Option Addr) (n29 : Nat) (c30 : Nat) (p1 : S_mend_Graph) (p22 : List Int) (p27 : List Int) (r : Bool) : Value → World → Prop := fun v' w' =>
  ∃ (f' : HP), HP.le f f' ∧ v' = (Value.bool r) ∧ Wd G w' f' (L)
theorem fishkeep2_MendLeast.calls {G w : World} {f : HP} {L : List HProp} {A2 : Option Addr} {n3 : Nat} {c4 : Nat} {A6 : Option Addr} {n7 : Nat} {c8 : Nat} {A10 : Option Addr} {n11 : Nat} {c12 : Nat} {A14 : Option Addr} {n15 : Nat} {c16 : Nat} {A18 : Option Addr} {n19 : Nat} {c20 : Nat} {A23 : Option Addr} {n24 : Nat} {c25 : Nat} {A28 : Option Addr} {n29 : Nat} {c30 : Nat} {p1 : S_mend_Graph} {p22 : List Int} {p27 : List Int} (hw : Wd G w f (L)) (hs5 : SlF f (fInt .i64) A2 n3 c4 p1.Ready) (hs9 : SlF f (fInt .i64) A6 n7 c8 p1.Last) (hs13 : SlF f (fInt .i64) A10 n11 c12 p1.Due) (hs17 : SlF f fS_mend_Arc A14 n15 c16 p1.Arcs) (hs21 : SlF f fS_mend_Choice A18 n19 c20 p1.Choices) (hs26 : SlF f (fInt .i64) A23 n24 c25 p22) (hs31 : SlF f (fInt .i64) A28 n29 c30 p27) {r : Bool} (h : fishkeep2_MendLeast p1 p22 p27 = some r) :
    Calls Try.prog 3 #[(Value.agg #[(Value.slice A2 n3 c4), (Value.slice A6 n7 c8), (Value.slice A10 n11 c12), (Value.slice A14 n15 c16), (Value.slice A18 n19 c20)]), (Value.slice A23 n24 c25), (Value.slice A28 n29 c30)] w (Returns (fishkeep2_MendLeast.R G f L A2 n3 c4 A6 n7 c8 A10 n11 c12 A14 n15 c16 A18 n19 c20 A23 n24 c25 A28 n29 c30 p1 p22 p27 r)) := by
  unfold fishkeep2_MendLeast at h
  refine ecalls 225 Try.func3 rfl rfl ?_
  refine ewp_seq ?_
  refine ewp_region ?_
  refine el_exv (wanted_n rfl) rfl rfl (run_boxE (cs := [(Value.slice A2 n3 c4), (Value.slice A6 n7 c8), (Value.slice A10 n11 c12), (Value.slice A14 n15 c16), (Value.slice A18 n19 c20)]) rfl rfl hw) ?_
  rintro w516 _ ⟨b514, rfl, hw⟩
  refine el_val (v := (Value.bool false)) (wanted_n rfl) rfl rfl (run_pev (v := (Value.bool false)) rfl) ?_
  refine el_nil ?_
  refine ewp_seq ?_
  refine ewp_seq ?_
  refine ewp_region ?_
  obtain ⟨x517, hx518, h⟩ := bind_some h
  refine el_call (wanted_n rfl) rfl rfl (run_call (vals := (List.toArray [])) rfl cl7 rfl) (fishkeep2_awakeMend.calls hw  hx518) ?_
  rintro _ w521 ⟨f519, hle520, rfl, hw⟩
  replace hs5 := hs5.mono hle520
  replace hs9 := hs9.mono hle520
  replace hs13 := hs13.mono hle520
  replace hs17 := hs17.mono hle520
  replace hs21 := hs21.mono hle520
  replace hs26 := hs26.mono hle520
  replace hs31 := hs31.mono hle520
  refine el_val (v := (Value.bool (!x517))) (wanted_n rfl) rfl rfl (run_pev (v := (Value.bool (!x517))) rfl) ?_
  refine el_nil ?_
  refine ewp_cond (!x517) rfl (fun hb522 => ?_) (fun hb522 => ?_)
  · replace h := ifb_t hb522 h
    refine ewp_seq ?_
    refine ewp_region ?_
    refine el_val (v := (Value.bool false)) (wanted_n rfl) rfl rfl (run_pev (v := (Value.bool false)) rfl) ?_
    refine el_nil ?_
    refine ewp_ret ?_
    replace hw := hw.drop_0
    obtain rfl := Option.some.inj h
    exact ⟨_, res1 rfl, f519, hle520, rfl, hw⟩
  · replace h := ifb_f hb522 h
    refine ewp_skip ?_
    refine ewp_seq ?_
    refine ewp_seq ?_
    refine ewp_region ?_
    obtain ⟨x523, hx524, h⟩ := bind_some h
    refine el_call (wanted_n rfl) rfl rfl (run_call (vals := (List.toArray [])) rfl cl8 rfl) (fishkeep2_graphs.calls hw  hx524) ?_
    rintro _ w527 ⟨f525, hle526, rfl, hw⟩
    replace hs5 := hs5.mono hle526
    replace hs9 := hs9.mono hle526
    replace hs13 := hs13.mono hle526
    replace hs17 := hs17.mono hle526
    replace hs21 := hs21.mono hle526
    replace hs26 := hs26.mono hle526
    replace hs31 := hs31.mono hle526
    refine el_val (v := (Value.bool (!x523))) (wanted_n rfl) rfl rfl (run_pev (v := (Value.bool (!x523))) rfl) ?_
    refine el_nil ?_
    refine ewp_cond (!x523) rfl (fun hb528 => ?_) (fun hb528 => ?_)
    · replace h := ifb_t hb528 h
      refine ewp_seq ?_
      refine ewp_region ?_
      refine el_val (v := (Value.bool false)) (wanted_n rfl) rfl rfl (run_pev (v := (Value.bool false)) rfl) ?_
      refine el_nil ?_
      refine ewp_ret ?_
      replace hw := hw.drop_0
      obtain rfl := Option.some.inj h
      exact ⟨_, res1 rfl, f525, (HP.le_trans hle520 hle526), rfl, hw⟩
    · replace h := ifb_f hb528 h
      refine ewp_skip ?_
      refine ewp_seq ?_
      refine ewp_seq ?_
      obtain ⟨s544, hc548, h⟩ := bind_some h
      refine ewp_N (fun ρ' w' => ∃ (f545 : HP), HP.le f525 f545 ∧ Live ρ' [(1, (Value.slice A23 n24 c25)), (2, (Value.slice A28 n29 c30)), (3, (Value.pointer (some ⟨b514, 0, none⟩))), (37, (Value.bool s544))] ∧ Wd G w' f545 (Blk b514 (.cells (List.toArray [(Value.slice A2 n3 c4), (Value.slice A6 n7 c8), (Value.slice A10 n11 c12), (Value.slice A14 n15 c16), (Value.slice A18 n19 c20)]) 26 (0, 0)) :: L)) ?_ ?_
      · replace h := hc548
        refine ewp_region ?_
        refine el_val (v := (Value.agg #[(Value.slice A2 n3 c4), (Value.slice A6 n7 c8), (Value.slice A10 n11 c12), (Value.slice A14 n15 c16), (Value.slice A18 n19 c20)])) (wanted_n rfl) rfl rfl (run_loadN (ad := ⟨b514, 0, none⟩) (cs := [(Value.slice A2 n3 c4), (Value.slice A6 n7 c8), (Value.slice A10 n11 c12), (Value.slice A14 n15 c16), (Value.slice A18 n19 c20)]) ta26 ts26 rfl rfl (wd_cells 0 hw rfl rfl)) ?_
        refine el_val (v := (Value.slice A23 n24 c25)) (wanted_n rfl) rfl rfl (run_pev (v := (Value.slice A23 n24 c25)) rfl) ?_
        obtain ⟨x549, hx550, h⟩ := bind_some h
        refine el_call (wanted_n rfl) rfl rfl (run_call (vals := (List.toArray [(Value.agg #[(Value.slice A2 n3 c4), (Value.slice A6 n7 c8), (Value.slice A10 n11 c12), (Value.slice A14 n15 c16), (Value.slice A18 n19 c20)]), (Value.slice A23 n24 c25)])) rfl cl9 rfl) (fishref2_PickFault.calls hw hs5 hs9 hs13 hs17 hs21 hs26 hx550) ?_
        rintro _ w553 ⟨f551, hle552, rfl, hw⟩
        replace hs5 := hs5.mono hle552
        replace hs9 := hs9.mono hle552
        replace hs13 := hs13.mono hle552
        replace hs17 := hs17.mono hle552
        replace hs21 := hs21.mono hle552
        replace hs26 := hs26.mono hle552
        replace hs31 := hs31.mono hle552
        refine el_val (v := (Value.bool (x549 != 0))) (wanted_n rfl) rfl rfl (run_pev (v := (Value.bool (x549 != 0))) rfl) ?_
        refine el_val (v := (Value.bool (x549 != 0))) (wanted_n rfl) rfl rfl (run_pev (v := (Value.bool (x549 != 0))) rfl) ?_
        rcases Bool.eq_false_or_eq_true (x549 != 0) with hb554 | hb554
        · replace h := ifb_t hb554 h
          refine el_pass (wanted_f rfl rfl rfl hb554) rfl rfl ?_
          refine el_pass (wanted_f rfl rfl rfl hb554) rfl rfl ?_
          refine el_pass (wanted_f rfl rfl rfl hb554) rfl rfl ?_
          refine el_pass (wanted_f rfl rfl rfl hb554) rfl rfl ?_
          refine el_val (v := (Value.bool true)) (wanted_n rfl) rfl rfl (run_pick_t rfl hb554 rfl) ?_
          refine el_nil ?_
          obtain rfl := Option.some.inj h
          exact ⟨f551, hle552, ⟨rfl, rfl, rfl, rfl, trivial⟩, hw⟩
        · replace h := ifb_f hb554 h
          refine el_val (v := (Value.agg #[(Value.slice A2 n3 c4), (Value.slice A6 n7 c8), (Value.slice A10 n11 c12), (Value.slice A14 n15 c16), (Value.slice A18 n19 c20)])) (wanted_y rfl rfl rfl hb554) rfl rfl (run_loadN (ad := ⟨b514, 0, none⟩) (cs := [(Value.slice A2 n3 c4), (Value.slice A6 n7 c8), (Value.slice A10 n11 c12), (Value.slice A14 n15 c16), (Value.slice A18 n19 c20)]) ta26 ts26 rfl rfl (wd_cells 0 hw rfl rfl)) ?_
          refine el_val (v := (Value.slice A28 n29 c30)) (wanted_y rfl rfl rfl hb554) rfl rfl (run_pev (v := (Value.slice A28 n29 c30)) rfl) ?_
          obtain ⟨x555, hx556, h⟩ := bind_some h
          refine el_call (wanted_y rfl rfl rfl hb554) rfl rfl (run_call (vals := (List.toArray [(Value.agg #[(Value.slice A2 n3 c4), (Value.slice A6 n7 c8), (Value.slice A10 n11 c12), (Value.slice A14 n15 c16), (Value.slice A18 n19 c20)]), (Value.slice A28 n29 c30)])) rfl cl9 rfl) (fishref2_PickFault.calls hw hs5 hs9 hs13 hs17 hs21 hs31 hx556) ?_
          rintro _ w559 ⟨f557, hle558, rfl, hw⟩
          replace hs5 := hs5.mono hle558
          replace hs9 := hs9.mono hle558
          replace hs13 := hs13.mono hle558
          replace hs17 := hs17.mono hle558
          replace hs21 := hs21.mono hle558
          replace hs26 := hs26.mono hle558
          replace hs31 := hs31.mono hle558
          refine el_val (v := (Value.bool (x555 != 0))) (wanted_y rfl rfl rfl hb554) rfl rfl (run_pev (v := (Value.bool (x555 != 0))) rfl) ?_
          refine el_val (v := (Value.bool (x555 != 0))) (wanted_n rfl) rfl rfl (run_pick_f rfl hb554 rfl) ?_
          refine el_nil ?_
          obtain rfl := Option.some.inj h
          exact ⟨f557, (HP.le_trans hle552 hle558), ⟨rfl, rfl, rfl, rfl, trivial⟩, hw⟩
      · rintro ρ560 w561 ⟨f545, hle546, hl547, hw⟩
        first | refine ewp_live hl547 fun ρ562 => ?_ | rw [← hl547.eq]
        replace hs5 := hs5.mono hle546
        replace hs9 := hs9.mono hle546
        replace hs13 := hs13.mono hle546
        replace hs17 := hs17.mono hle546
        replace hs21 := hs21.mono hle546
        replace hs26 := hs26.mono hle546
        replace hs31 := hs31.mono hle546
        refine ewp_cond s544 rfl (fun hb563 => ?_) (fun hb563 => ?_)
        · replace h := ifb_t hb563 h
          refine ewp_seq ?_
          refine ewp_region ?_
          refine el_val (v := (Value.bool true)) (wanted_n rfl) rfl rfl (run_pev (v := (Value.bool true)) rfl) ?_
          refine el_nil ?_
          refine ewp_ret ?_
          replace hw := hw.drop_0
          obtain rfl := Option.some.inj h
          exact ⟨_, res1 rfl, f545, (HP.le_trans (HP.le_trans hle520 hle526) hle546), rfl, hw⟩
        · replace h := ifb_f hb563 h
          refine ewp_skip ?_
          refine ewp_seq ?_
          refine ewp_region ?_
          refine el_val (v := (Value.agg #[(Value.slice A2 n3 c4), (Value.slice A6 n7 c8), (Value.slice A10 n11 c12), (Value.slice A14 n15 c16), (Value.slice A18 n19 c20)])) (wanted_n rfl) rfl rfl (run_loadN (ad := ⟨b514, 0, none⟩) (cs := [(Value.slice A2 n3 c4), (Value.slice A6 n7 c8), (Value.slice A10 n11 c12), (Value.slice A14 n15 c16), (Value.slice A18 n19 c20)]) ta26 ts26 rfl rfl (wd_cells 0 hw rfl rfl)) ?_
          refine el_val (v := (Value.slice A23 n24 c25)) (wanted_n rfl) rfl rfl (run_pev (v := (Value.slice A23 n24 c25)) rfl) ?_
          obtain ⟨x564, hx565, h⟩ := bind_some h
          refine el_call (wanted_n rfl) rfl rfl (run_call (vals := (List.toArray [(Value.agg #[(Value.slice A2 n3 c4), (Value.slice A6 n7 c8), (Value.slice A10 n11 c12), (Value.slice A14 n15 c16), (Value.slice A18 n19 c20)]), (Value.slice A23 n24 c25)])) rfl cl10 rfl) (mend_Times_v2.calls hw hs5 hs9 hs13 hs17 hs21 hs26 hx565) ?_
          rintro _ w572 ⟨f566, A568, n569, c570, hle567, rfl, hs571, hw⟩
          replace hs5 := hs5.mono hle567
          replace hs9 := hs9.mono hle567
          replace hs13 := hs13.mono hle567
          replace hs17 := hs17.mono hle567
          replace hs21 := hs21.mono hle567
          replace hs26 := hs26.mono hle567
          replace hs31 := hs31.mono hle567
          refine el_val (v := (Value.tuple #[(Value.slice A568 n569 c570), (Value.int .i64 x564.2)])) (wanted_n rfl) rfl rfl (run_pev (v := (Value.tuple #[(Value.slice A568 n569 c570), (Value.int .i64 x564.2)])) rfl) ?_
          refine el_val (v := (Value.slice A568 n569 c570)) (wanted_n rfl) rfl rfl (run_pev (v := (Value.slice A568 n569 c570)) rfl) ?_
          refine el_val (v := (Value.int .i64 x564.2)) (wanted_n rfl) rfl rfl (run_pev (v := (Value.int .i64 x564.2)) rfl) ?_
          refine el_val (v := (Value.slice A568 n569 c570)) (wanted_n rfl) rfl rfl (run_pev (v := (Value.slice A568 n569 c570)) rfl) ?_
          refine el_val (v := (Value.int .i64 x564.2)) (wanted_n rfl) rfl rfl (run_pev (v := (Value.int .i64 x564.2)) rfl) ?_
          refine el_nil ?_
          refine ewp_seq ?_
          refine ewp_seq ?_
          refine ewp_region ?_
          refine el_val (v := (Value.int .i64 x564.2)) (wanted_n rfl) rfl rfl (run_pev (v := (Value.int .i64 x564.2)) rfl) ?_
          refine el_val (v := (Value.bool (x564.2 != 0))) (wanted_n rfl) rfl rfl (run_pev (v := (Value.bool (x564.2 != 0))) rfl) ?_
          refine el_nil ?_
          refine ewp_cond (x564.2 != 0) rfl (fun hb573 => ?_) (fun hb573 => ?_)
          · replace h := ifb_t hb573 h
            refine ewp_seq ?_
            obtain ⟨s579, hc583, h⟩ := bind_some h
            refine ewp_N (fun ρ' w' => ∃ (f580 : HP), HP.le f566 f580 ∧ Live ρ' [(6, (Value.bool s579))] ∧ Wd G w' f580 (Blk b514 (.cells (List.toArray [(Value.slice A2 n3 c4), (Value.slice A6 n7 c8), (Value.slice A10 n11 c12), (Value.slice A14 n15 c16), (Value.slice A18 n19 c20)]) 26 (0, 0)) :: L)) ?_ ?_
            · replace h := hc583
              refine ewp_region ?_
              refine el_val (v := (Value.int .i64 x564.2)) (wanted_n rfl) rfl rfl (run_pev (v := (Value.int .i64 x564.2)) rfl) ?_
              refine el_val (v := (Value.bool (x564.2 == 5))) (wanted_n rfl) rfl rfl (run_pev (v := (Value.bool (x564.2 == 5))) rfl) ?_
              refine el_val (v := (Value.bool (x564.2 == 5))) (wanted_n rfl) rfl rfl (run_pev (v := (Value.bool (x564.2 == 5))) rfl) ?_
              rcases Bool.eq_false_or_eq_true (x564.2 == 5) with hb584 | hb584
              · replace h := ifb_t hb584 h
                refine el_val (v := (Value.slice A568 n569 c570)) (wanted_y rfl rfl rfl hb584) rfl rfl (run_pev (v := (Value.slice A568 n569 c570)) rfl) ?_
                refine el_val (v := (Value.int .i64 (x564.1.length : Int))) (wanted_y rfl rfl rfl hb584) rfl rfl (run_lenS te22 rfl hs571.len) ?_
                refine el_val (v := (Value.bool ((x564.1.length : Int) == 0))) (wanted_y rfl rfl rfl hb584) rfl rfl (run_pev (v := (Value.bool ((x564.1.length : Int) == 0))) rfl) ?_
                refine el_val (v := (Value.bool ((x564.1.length : Int) == 0))) (wanted_n rfl) rfl rfl (run_pick_t rfl hb584 rfl) ?_
                refine el_val (v := (Value.bool ((x564.1.length : Int) == 0))) (wanted_n rfl) rfl rfl (run_pev (v := (Value.bool ((x564.1.length : Int) == 0))) rfl) ?_
                refine el_nil ?_
                obtain rfl := Option.some.inj h
                exact ⟨f566, (HP.le_refl _), ⟨rfl, trivial⟩, hw⟩
              · replace h := ifb_f hb584 h
                refine el_pass (wanted_f rfl rfl rfl hb584) rfl rfl ?_
                refine el_pass (wanted_f rfl rfl rfl hb584) rfl rfl ?_
                refine el_pass (wanted_f rfl rfl rfl hb584) rfl rfl ?_
                refine el_val (v := (Value.bool false)) (wanted_n rfl) rfl rfl (run_pick_f rfl hb584 rfl) ?_
                refine el_val (v := (Value.bool false)) (wanted_n rfl) rfl rfl (run_pev (v := (Value.bool false)) rfl) ?_
                refine el_nil ?_
                obtain rfl := Option.some.inj h
                exact ⟨f566, (HP.le_refl _), ⟨rfl, trivial⟩, hw⟩
            · rintro ρ585 w586 ⟨f580, hle581, hl582, hw⟩
              first | refine ewp_live hl582 fun ρ587 => ?_ | rw [← hl582.eq]
              replace hs5 := hs5.mono hle581
              replace hs9 := hs9.mono hle581
              replace hs13 := hs13.mono hle581
              replace hs17 := hs17.mono hle581
              replace hs21 := hs21.mono hle581
              replace hs26 := hs26.mono hle581
              replace hs31 := hs31.mono hle581
              replace hs571 := hs571.mono hle581
              refine ewp_ret ?_
              replace hw := hw.drop_0
              obtain rfl := Option.some.inj h
              exact ⟨_, res1 rfl, f580, (HP.le_trans (HP.le_trans (HP.le_trans (HP.le_trans hle520 hle526) hle546) hle567) hle581), rfl, hw⟩
          · replace h := ifb_f hb573 h
            refine ewp_skip ?_
            refine ewp_seq ?_
            refine ewp_seq ?_
            refine ewp_region ?_
            refine el_val (v := (Value.slice A568 n569 c570)) (wanted_n rfl) rfl rfl (run_pev (v := (Value.slice A568 n569 c570)) rfl) ?_
            refine el_val (v := (Value.int .i64 (x564.1.length : Int))) (wanted_n rfl) rfl rfl (run_lenS te22 rfl hs571.len) ?_
            refine el_val (v := (Value.pointer (some ⟨b514, 0, none⟩))) (wanted_n rfl) rfl rfl (run_fieldAddr tf26_0 (o := 0) rfl) ?_
            refine el_val (v := (Value.slice A2 n3 c4)) (wanted_n rfl) rfl rfl (run_load1 (ad := ⟨b514, 0, none⟩) ta22 rfl (wd_cell 0 hw rfl rfl)) ?_
            refine el_val (v := (Value.int .i64 (p1.Ready.length : Int))) (wanted_n rfl) rfl rfl (run_lenS te22 rfl hs5.len) ?_
            refine el_val (v := (Value.bool ((x564.1.length : Int) != (p1.Ready.length : Int)))) (wanted_n rfl) rfl rfl (run_pev (v := (Value.bool ((x564.1.length : Int) != (p1.Ready.length : Int)))) rfl) ?_
            refine el_nil ?_
            refine ewp_cond ((x564.1.length : Int) != (p1.Ready.length : Int)) rfl (fun hb588 => ?_) (fun hb588 => ?_)
            · replace h := ifb_t hb588 h
              refine ewp_seq ?_
              refine ewp_region ?_
              refine el_val (v := (Value.bool false)) (wanted_n rfl) rfl rfl (run_pev (v := (Value.bool false)) rfl) ?_
              refine el_nil ?_
              refine ewp_ret ?_
              replace hw := hw.drop_0
              obtain rfl := Option.some.inj h
              exact ⟨_, res1 rfl, f566, (HP.le_trans (HP.le_trans (HP.le_trans hle520 hle526) hle546) hle567), rfl, hw⟩
            · replace h := ifb_f hb588 h
              refine ewp_skip ?_
              refine ewp_seq ?_
              refine ewp_region ?_
              refine el_val (v := (Value.pointer (some ⟨b514, 3, none⟩))) (wanted_n rfl) rfl rfl (run_fieldAddr tf26_3 (o := 0) rfl) ?_
              refine el_val (v := (Value.slice A14 n15 c16)) (wanted_n rfl) rfl rfl (run_load1 (ad := ⟨b514, 3, none⟩) ta23 rfl (wd_cell 0 hw rfl rfl)) ?_
              obtain ⟨x589, hx590, h⟩ := bind_some h
              refine el_call (wanted_n rfl) rfl rfl (run_call (vals := (List.toArray [(Value.slice A14 n15 c16)])) rfl cl11 rfl) (slices_Clone_mend_Arc_mend_Arc_v2.calls hw hs17 hx590) ?_
              rintro _ w599 ⟨f591, A593, n594, c595, cur596, hle592, rfl, hk597, hw⟩
              replace hs5 := hs5.mono hle592
              replace hs9 := hs9.mono hle592
              replace hs13 := hs13.mono hle592
              replace hs17 := hs17.mono hle592
              replace hs21 := hs21.mono hle592
              replace hs26 := hs26.mono hle592
              replace hs31 := hs31.mono hle592
              replace hs571 := hs571.mono hle592
              refine el_val (v := (Value.slice A593 n594 c595)) (wanted_n rfl) rfl rfl (run_pev (v := (Value.slice A593 n594 c595)) rfl) ?_
              refine el_nil ?_
              refine ewp_seq ?_
              refine ewp_seq ?_
              refine ewp_region ?_
              refine el_val (v := (Value.slice A23 n24 c25)) (wanted_n rfl) rfl rfl (run_pev (v := (Value.slice A23 n24 c25)) rfl) ?_
              refine el_val (v := (Value.int .i64 (p22.length : Int))) (wanted_n rfl) rfl rfl (run_lenS te22 rfl hs26.len) ?_
              refine el_val (v := (Value.int .i64 0)) (wanted_n rfl) rfl rfl (run_pev (v := (Value.int .i64 0)) rfl) ?_
              refine el_nil ?_
              obtain ⟨c721, hc722, h⟩ := bind_some h
              refine ewp_M (fun ρ' w' => ∃ s658, c721 = .go s658 ∧ ∃ (f659 : HP) (A662 : Option Addr) (n663 : Nat) (c664 : Nat) (cur665 : Array Value), HP.le f591 f659 ∧ ArrOk f659 fS_mend_Arc A662 n663 c664 cur665 s658 ∧ Live ρ' [(1, (Value.slice A23 n24 c25)), (2, (Value.slice A28 n29 c30)), (3, (Value.pointer (some ⟨b514, 0, none⟩))), (7, (Value.slice A568 n569 c570)), (9, (Value.slice A662 n663 c664))] ∧ Wd G w' f659 (Arr A662 c664 cur665 :: Blk b514 (.cells (List.toArray [(Value.slice A2 n3 c4), (Value.slice A6 n7 c8), (Value.slice A10 n11 c12), (Value.slice A14 n15 c16), (Value.slice A18 n19 c20)]) 26 (0, 0)) :: L)) noE noX ?_ ?_ ?_ ?_
              · refine ewp_block ?_
                refine ewp_forC (fun (i723 : Nat) (s658 : List S_mend_Arc) ρ' w' => ∃ (f659 : HP) (A662 : Option Addr) (n663 : Nat) (c664 : Nat) (cur665 : Array Value), HP.le f591 f659 ∧ ArrOk f659 fS_mend_Arc A662 n663 c664 cur665 s658 ∧ Live ρ' [(1, (Value.slice A23 n24 c25)), (2, (Value.slice A28 n29 c30)), (3, (Value.pointer (some ⟨b514, 0, none⟩))), (7, (Value.slice A568 n569 c570)), (9, (Value.slice A662 n663 c664)), (62, (Value.slice A23 n24 c25)), (63, (Value.int .i64 (p22.length : Int))), (64, (Value.int .i64 (i723 : Int)))] ∧ Wd G w' f659 (Arr A662 c664 cur665 :: Blk b514 (.cells (List.toArray [(Value.slice A2 n3 c4), (Value.slice A6 n7 c8), (Value.slice A10 n11 c12), (Value.slice A14 n15 c16), (Value.slice A18 n19 c20)]) 26 (0, 0)) :: L)) hc722 ⟨f591, A593, n594, c595, cur596, (HP.le_refl _), hk597, ⟨rfl, rfl, rfl, rfl, rfl, rfl, rfl, rfl, trivial⟩, hw⟩ ?_ ?_
                · rintro i723 x724 s658 ct727 ρ725 w726 hx h ⟨f659, A662, n663, c664, cur665, hle660, hk666, hl661, hw⟩
                  unfold fishkeep2_MendLeast_b7 at h
                  first | refine ewp_live hl661 fun ρ728 => ?_ | rw [← hl661.eq]
                  replace hs5 := hs5.mono hle660
                  replace hs9 := hs9.mono hle660
                  replace hs13 := hs13.mono hle660
                  replace hs17 := hs17.mono hle660
                  replace hs21 := hs21.mono hle660
                  replace hs26 := hs26.mono hle660
                  replace hs31 := hs31.mono hle660
                  replace hs571 := hs571.mono hle660
                  refine ewp_seq ?_
                  refine ewp_region ?_
                  refine el_val (v := (Value.bool (decide ((i723 : Int) < (p22.length : Int))))) (wanted_n rfl) rfl rfl (run_pev (v := (Value.bool (decide ((i723 : Int) < (p22.length : Int))))) rfl) ?_
                  refine el_nil ?_
                  refine ewp_seq ?_
                  refine ewp_cond_t rfl (lt_len hx) ?_
                  refine ewp_skip ?_
                  refine ewp_seq ?_
                  obtain ⟨s772, hc781, h⟩ := bind_some h
                  refine ewp_N (fun ρ' w' => ∃ (f773 : HP) (A776 : Option Addr) (n777 : Nat) (c778 : Nat) (cur779 : Array Value), HP.le f659 f773 ∧ ArrOk f773 fS_mend_Arc A776 n777 c778 cur779 s772 ∧ Live ρ' [(1, (Value.slice A23 n24 c25)), (2, (Value.slice A28 n29 c30)), (3, (Value.pointer (some ⟨b514, 0, none⟩))), (7, (Value.slice A568 n569 c570)), (9, (Value.slice A776 n777 c778)), (62, (Value.slice A23 n24 c25)), (63, (Value.int .i64 (p22.length : Int))), (64, (Value.int .i64 (i723 : Int)))] ∧ Wd G w' f773 (Arr A776 c778 cur779 :: Blk b514 (.cells (List.toArray [(Value.slice A2 n3 c4), (Value.slice A6 n7 c8), (Value.slice A10 n11 c12), (Value.slice A14 n15 c16), (Value.slice A18 n19 c20)]) 26 (0, 0)) :: L)) ?_ ?_
                  · replace h := hc781
                    refine ewp_block ?_
                    refine ewp_seq ?_
                    refine ewp_region ?_
                    refine el_val (v := (Value.int .i64 (i723 : Int))) (wanted_n rfl) rfl rfl (run_pev (v := (Value.int .i64 (i723 : Int))) rfl) ?_
                    obtain ⟨b782, of783, es784, hA785, hc786, he787⟩ := sl_el hs26 (idx_nat hx)
                    obtain rfl : es784 = _ := he787
                    refine el_val (v := (Value.pointer (some (eAdr A23 (((i723 : Int)).toNat * 1))))) (wanted_n rfl) rfl rfl (run_idx te22 ts3 rfl hs26.len rfl (idx_nat hx) hA785) ?_
                    refine el_val (v := (Value.int .i64 x724)) (wanted_n rfl) rfl rfl (run_load1 (ad := (eAdr A23 (((i723 : Int)).toNat * 1))) ta3 rfl (hw.fz (hc786 0 _ rfl))) ?_
                    refine el_val (v := (Value.int .i64 (i723 : Int))) (wanted_n rfl) rfl rfl (run_pev (v := (Value.int .i64 (i723 : Int))) rfl) ?_
                    refine el_val (v := (Value.int .i64 x724)) (wanted_n rfl) rfl rfl (run_pev (v := (Value.int .i64 x724)) rfl) ?_
                    refine el_nil ?_
                    refine ewp_seq ?_
                    refine ewp_region ?_
                    refine el_val (v := (Value.int .i64 x724)) (wanted_n rfl) rfl rfl (run_pev (v := (Value.int .i64 x724)) rfl) ?_
                    refine el_val (v := (Value.bool (decide (x724 > 0)))) (wanted_n rfl) rfl rfl (run_pev (v := (Value.bool (decide (x724 > 0)))) rfl) ?_
                    refine el_nil ?_
                    refine ewp_cond (decide (x724 > 0)) rfl (fun hb788 => ?_) (fun hb788 => ?_)
                    · replace h := ifb_t hb788 h
                      refine ewp_region ?_
                      refine el_val (v := (Value.slice A662 n663 c664)) (wanted_n rfl) rfl rfl (run_pev (v := (Value.slice A662 n663 c664)) rfl) ?_
                      refine el_val (v := (Value.pointer (some ⟨b514, 4, none⟩))) (wanted_n rfl) rfl rfl (run_fieldAddr tf26_4 (o := 0) rfl) ?_
                      refine el_val (v := (Value.slice A18 n19 c20)) (wanted_n rfl) rfl rfl (run_load1 (ad := ⟨b514, 4, none⟩) ta24 rfl (wd_cell 1 hw rfl rfl)) ?_
                      refine el_val (v := (Value.int .i64 (i723 : Int))) (wanted_n rfl) rfl rfl (run_pev (v := (Value.int .i64 (i723 : Int))) rfl) ?_
                      obtain ⟨x789, hx790, h⟩ := bind_some h
                      obtain ⟨b791, of792, es793, hA794, hc795, he796⟩ := sl_el hs21 hx790
                      obtain ⟨A797, n798, c799, rfl, hs800⟩ := fS_mend_Choice.op he796
                      refine el_val (v := (Value.pointer (some (eAdr A18 (((i723 : Int)).toNat * 1))))) (wanted_n rfl) rfl rfl (run_idx te24 ts37 rfl hs21.len rfl hx790 hA794) ?_
                      refine el_val (v := (Value.pointer (some (eAdr A18 (((i723 : Int)).toNat * 1))))) (wanted_n rfl) rfl rfl (run_fieldEl tf37_0 rfl rfl rfl) ?_
                      refine el_val (v := (Value.slice A797 n798 c799)) (wanted_n rfl) rfl rfl (run_load1 (ad := (eAdr A18 (((i723 : Int)).toNat * 1))) ta35 rfl (hw.fz (hc795 0 _ rfl))) ?_
                      refine el_val (v := (Value.int .i64 x724)) (wanted_n rfl) rfl rfl (run_pev (v := (Value.int .i64 x724)) rfl) ?_
                      refine el_val (v := (Value.int .i64 (w64 (x724 - 1)))) (wanted_n rfl) rfl rfl (run_pev (v := (Value.int .i64 (w64 (x724 - 1)))) rfl) ?_
                      obtain ⟨x801, hx802, h⟩ := bind_some h
                      obtain ⟨b803, of804, es805, hA806, hc807, he808⟩ := sl_el hs800 hx802
                      obtain ⟨A809, n810, c811, rfl, hs812⟩ := he808
                      refine el_val (v := (Value.pointer (some (eAdr A797 ((w64 (x724 - 1)).toNat * 1))))) (wanted_n rfl) rfl rfl (run_idx te35 ts23 rfl hs800.len rfl hx802 hA806) ?_
                      refine el_val (v := (Value.slice A809 n810 c811)) (wanted_n rfl) rfl rfl (run_load1 (ad := (eAdr A797 ((w64 (x724 - 1)).toNat * 1))) ta23 rfl (hw.fz (hc807 0 _ rfl))) ?_
                      obtain ⟨x813, hx814, h⟩ := bind_some h
                      refine el_exv (wanted_n rfl) rfl rfl (run_arrAppF (E := fS_mend_Arc) tA23 hw hk666 rfl rfl hs812.len hs812 hx814) ?_
                      rintro w820 _ ⟨A815, n816, c817, cur818, rfl, hk819, hw⟩
                      refine el_val (v := (Value.slice A815 n816 c817)) (wanted_n rfl) rfl rfl (run_pev (v := (Value.slice A815 n816 c817)) rfl) ?_
                      refine el_nil ?_
                      obtain rfl := Option.some.inj h
                      exact ⟨f659, A815, n816, c817, cur818, (HP.le_refl _), hk819, ⟨rfl, rfl, rfl, rfl, rfl, rfl, rfl, rfl, trivial⟩, hw⟩
                    · replace h := ifb_f hb788 h
                      refine ewp_skip ?_
                      obtain rfl := Option.some.inj h
                      exact ⟨f659, A662, n663, c664, cur665, (HP.le_refl _), hk666, ⟨rfl, rfl, rfl, rfl, rfl, rfl, rfl, rfl, trivial⟩, hw⟩
                  · rintro ρ821 w822 ⟨f773, A776, n777, c778, cur779, hle774, hk780, hl775, hw⟩
                    first | refine ewp_live hl775 fun ρ823 => ?_ | rw [← hl775.eq]
                    replace hs5 := hs5.mono hle774
                    replace hs9 := hs9.mono hle774
                    replace hs13 := hs13.mono hle774
                    replace hs17 := hs17.mono hle774
                    replace hs21 := hs21.mono hle774
                    replace hs26 := hs26.mono hle774
                    replace hs31 := hs31.mono hle774
                    replace hs571 := hs571.mono hle774
                    refine ewp_region ?_
                    refine el_val (v := (Value.int .i64 (w64 ((i723 : Int) + 1)))) (wanted_n rfl) rfl rfl (run_pev (v := (Value.int .i64 (w64 ((i723 : Int) + 1)))) rfl) ?_
                    refine el_val (v := (Value.int .i64 (w64 ((i723 : Int) + 1)))) (wanted_n rfl) rfl rfl (run_pev (v := (Value.int .i64 (w64 ((i723 : Int) + 1)))) rfl) ?_
                    refine el_nil ?_
                    obtain rfl := Option.some.inj h
                    exact ⟨_, rfl, f773, A776, n777, c778, cur779, (HP.le_trans hle660 hle774), hk780, ⟨rfl, rfl, rfl, rfl, rfl, rfl, rfl, (congrArg (Value.int .i64) (succ_w64 hs26.room hx)), trivial⟩, hw⟩
                · rintro s658 ρ824 w825 hfin826 ⟨f659, A662, n663, c664, cur665, hle660, hk666, hl661, hw⟩
                  first | refine ewp_live hl661 fun ρ827 => ?_ | rw [← hl661.eq]
                  replace hs5 := hs5.mono hle660
                  replace hs9 := hs9.mono hle660
                  replace hs13 := hs13.mono hle660
                  replace hs17 := hs17.mono hle660
                  replace hs21 := hs21.mono hle660
                  replace hs26 := hs26.mono hle660
                  replace hs31 := hs31.mono hle660
                  replace hs571 := hs571.mono hle660
                  refine ewp_seq ?_
                  refine ewp_region ?_
                  refine el_val (v := (Value.bool (decide ((p22.length : Int) < (p22.length : Int))))) (wanted_n rfl) rfl rfl (run_pev (v := (Value.bool (decide ((p22.length : Int) < (p22.length : Int))))) rfl) ?_
                  refine el_nil ?_
                  refine ewp_seq ?_
                  refine ewp_cond_f rfl (nlt_self _) ?_
                  refine ewp_exit ?_
                  exact ⟨s658, hfin826, f659, A662, n663, c664, cur665, hle660, hk666, ⟨rfl, rfl, rfl, rfl, rfl, trivial⟩, hw⟩
              · rintro ρ828 w829 ⟨s658, rfl, f659, A662, n663, c664, cur665, hle660, hk666, hl661, hw⟩
                replace h := on_go h
                first | refine ewp_live hl661 fun ρ830 => ?_ | rw [← hl661.eq]
                replace hs5 := hs5.mono hle660
                replace hs9 := hs9.mono hle660
                replace hs13 := hs13.mono hle660
                replace hs17 := hs17.mono hle660
                replace hs21 := hs21.mono hle660
                replace hs26 := hs26.mono hle660
                replace hs31 := hs31.mono hle660
                replace hs571 := hs571.mono hle660
                refine ewp_seq ?_
                refine ewp_seq ?_
                refine ewp_region ?_
                refine el_val (v := (Value.slice A662 n663 c664)) (wanted_n rfl) rfl rfl (run_pev (v := (Value.slice A662 n663 c664)) rfl) ?_
                refine el_val (v := (Value.int .i64 (s658.length : Int))) (wanted_n rfl) rfl rfl (run_lenS te23 rfl hk666.len) ?_
                refine el_val (v := (Value.int .i64 0)) (wanted_n rfl) rfl rfl (run_pev (v := (Value.int .i64 0)) rfl) ?_
                refine el_nil ?_
                obtain ⟨c864, hc865, h⟩ := bind_some h
                refine ewp_M (fun ρ' w' => ∃ s831, c864 = .go s831 ∧ ∃ (f832 : HP), HP.le f659 f832 ∧ Live ρ' [(1, (Value.slice A23 n24 c25)), (2, (Value.slice A28 n29 c30)), (3, (Value.pointer (some ⟨b514, 0, none⟩))), (7, (Value.slice A568 n569 c570)), (9, (Value.slice A662 n663 c664))] ∧ Wd G w' f832 (Arr A662 c664 cur665 :: Blk b514 (.cells (List.toArray [(Value.slice A2 n3 c4), (Value.slice A6 n7 c8), (Value.slice A10 n11 c12), (Value.slice A14 n15 c16), (Value.slice A18 n19 c20)]) 26 (0, 0)) :: L)) (fun ρ' w' => ∃ x_, c864 = .out x_ ∧ (x_ = r → RetPost Try.prog Try.f3 (fishkeep2_MendLeast.R G f L A2 n3 c4 A6 n7 c8 A10 n11 c12 A14 n15 c16 A18 n19 c20 A23 n24 c25 A28 n29 c30 p1 p22 p27 r) .ret ρ' w')) noX ?_ ?_ ?_ ?_
                · refine ewp_block ?_
                  refine ewp_forC (fun (i866 : Nat) (s831 : Unit) ρ' w' => ∃ (f832 : HP), HP.le f659 f832 ∧ Live ρ' [(1, (Value.slice A23 n24 c25)), (2, (Value.slice A28 n29 c30)), (3, (Value.pointer (some ⟨b514, 0, none⟩))), (7, (Value.slice A568 n569 c570)), (9, (Value.slice A662 n663 c664)), (84, (Value.slice A662 n663 c664)), (85, (Value.int .i64 (s658.length : Int))), (86, (Value.int .i64 (i866 : Int)))] ∧ Wd G w' f832 (Arr A662 c664 cur665 :: Blk b514 (.cells (List.toArray [(Value.slice A2 n3 c4), (Value.slice A6 n7 c8), (Value.slice A10 n11 c12), (Value.slice A14 n15 c16), (Value.slice A18 n19 c20)]) 26 (0, 0)) :: L)) hc865 ⟨f659, (HP.le_refl _), ⟨rfl, rfl, rfl, rfl, rfl, rfl, rfl, rfl, trivial⟩, hw⟩ ?_ ?_
                  · rintro i866 x867 s831 ct870 ρ868 w869 hx h ⟨f832, hle833, hl834, hw⟩
                    unfold fishkeep2_MendLeast_b8 at h
                    first | refine ewp_live hl834 fun ρ871 => ?_ | rw [← hl834.eq]
                    replace hs5 := hs5.mono hle833
                    replace hs9 := hs9.mono hle833
                    replace hs13 := hs13.mono hle833
                    replace hs17 := hs17.mono hle833
                    replace hs21 := hs21.mono hle833
                    replace hs26 := hs26.mono hle833
                    replace hs31 := hs31.mono hle833
                    replace hs571 := hs571.mono hle833
                    replace hk666 := hk666.mono hle833
                    refine ewp_seq ?_
                    refine ewp_region ?_
                    refine el_val (v := (Value.bool (decide ((i866 : Int) < (s658.length : Int))))) (wanted_n rfl) rfl rfl (run_pev (v := (Value.bool (decide ((i866 : Int) < (s658.length : Int))))) rfl) ?_
                    refine el_nil ?_
                    refine ewp_seq ?_
                    refine ewp_cond_t rfl (lt_len hx) ?_
                    refine ewp_skip ?_
                    refine ewp_seq ?_
                    refine ewp_block ?_
                    refine ewp_seq ?_
                    refine ewp_region ?_
                    obtain ⟨b872, of873, es874, hA875, hc876, he877⟩ := arr_el hk666 (idx_nat hx)
                    obtain rfl := fS_mend_Arc.op he877
                    refine el_val (v := (Value.pointer (some (eAdr A662 (((i866 : Int)).toNat * 3))))) (wanted_n rfl) rfl rfl (run_idx te23 ts34 rfl hk666.len rfl (idx_nat hx) hA875) ?_
                    refine el_val (v := (Value.agg #[(Value.int .i64 x867.From), (Value.int .i64 x867.To), (Value.int .i64 x867.Len)])) (wanted_n rfl) rfl rfl (run_loadN (ad := (eAdr A662 (((i866 : Int)).toNat * 3))) (cs := [(Value.int .i64 x867.From), (Value.int .i64 x867.To), (Value.int .i64 x867.Len)]) ta34 ts34 rfl rfl (arr_cells 0 hw rfl hA875 hc876)) ?_
                    refine el_exv (wanted_n rfl) rfl rfl (run_allocE (cs := [(Value.int .i64 0), (Value.int .i64 0), (Value.int .i64 0)]) tz34 rfl hw) ?_
                    rintro w880 _ ⟨b878, rfl, hw⟩
                    refine el_exu (wanted_n rfl) rfl (run_blkSetE (new := List.toArray [(Value.int .i64 x867.From), (Value.int .i64 x867.To), (Value.int .i64 x867.Len)]) hw rfl rfl ts34 rfl rfl rfl) ?_
                    rintro w881 hw
                    refine el_nil ?_
                    refine ewp_seq ?_
                    refine ewp_draw (SW G f832 (Blk b878 (.cells (List.toArray [(Value.int .i64 x867.From), (Value.int .i64 x867.To), (Value.int .i64 x867.Len)]) 34 (0, 0)) :: Arr A662 c664 cur665 :: Blk b514 (.cells (List.toArray [(Value.slice A2 n3 c4), (Value.slice A6 n7 c8), (Value.slice A10 n11 c12), (Value.slice A14 n15 c16), (Value.slice A18 n19 c20)]) 26 (0, 0)) :: L)) [] 14 mixed ?_
                    replace hw := hw.drew
                    have hS := SW.of hw
                    refine et_pure (i := 0) (v := (Value.slice A568 n569 c570)) rfl (by kernel_rfl) (fun _ _ _ h => h) rfl rfl (.inl ⟨(wanted_n rfl), fun _ => run_pev (v := (Value.slice A568 n569 c570)) rfl⟩) ?_
                    refine et_pure (i := 1) (v := (Value.pointer (some ⟨b878, 1, none⟩))) rfl (by kernel_rfl) (fun _ _ _ h => h) rfl rfl (.inl ⟨(wanted_n rfl), fun _ => run_fieldAddr tf34_1 (o := 0) rfl⟩) ?_
                    refine et_first (i := 2) (v := (Value.int .i64 x867.To)) rfl (by kernel_rfl) (fun _ _ _ h => h) rfl rfl (.inl ⟨(wanted_n rfl), fun w9 ⟨f9, hl9, h9⟩ => run_load1 (ad := ⟨b878, 1, none⟩) ta3 rfl (wd_cell 0 h9 rfl rfl)⟩) hS ?_
                    obtain ⟨x898, hx899, h⟩ := bind_some h
                    obtain ⟨b900, of901, es902, hA903, hc904, he905⟩ := sl_el hs571 hx899
                    obtain rfl : es902 = _ := he905
                    refine et_pure (i := 3) (v := (Value.pointer (some (eAdr A568 ((x867.To).toNat * 1))))) rfl (by kernel_rfl) (fun _ _ _ h => h) rfl rfl (.inl ⟨(wanted_n rfl), fun _ => run_idx te22 ts3 rfl hs571.len rfl hx899 hA903⟩) ?_
                    refine et_first (i := 4) (v := (Value.int .i64 x898)) rfl (by kernel_rfl) (fun _ _ _ h => h) rfl rfl (.inl ⟨(wanted_n rfl), fun w9 ⟨f9, hl9, h9⟩ => run_load1 (ad := (eAdr A568 ((x867.To).toNat * 1))) ta3 rfl (h9.fz (hcell_le hl9 (hc904 0 _ rfl)))⟩) hS ?_
                    refine et_pure (i := 5) (v := (Value.slice A568 n569 c570)) rfl (by kernel_rfl) (fun _ _ _ h => h) rfl rfl (.inl ⟨(wanted_n rfl), fun _ => run_pev (v := (Value.slice A568 n569 c570)) rfl⟩) ?_
                    refine et_pure (i := 6) (v := (Value.pointer (some ⟨b878, 0, none⟩))) rfl (by kernel_rfl) (fun _ _ _ h => h) rfl rfl (.inl ⟨(wanted_n rfl), fun _ => run_fieldAddr tf34_0 (o := 0) rfl⟩) ?_
                    refine et_first (i := 7) (v := (Value.int .i64 x867.From)) rfl (by kernel_rfl) (fun _ _ _ h => h) rfl rfl (.inl ⟨(wanted_n rfl), fun w9 ⟨f9, hl9, h9⟩ => run_load1 (ad := ⟨b878, 0, none⟩) ta3 rfl (wd_cell 0 h9 rfl rfl)⟩) hS ?_
                    obtain ⟨x906, hx907, h⟩ := bind_some h
                    obtain ⟨b908, of909, es910, hA911, hc912, he913⟩ := sl_el hs571 hx907
                    obtain rfl : es910 = _ := he913
                    refine et_pure (i := 8) (v := (Value.pointer (some (eAdr A568 ((x867.From).toNat * 1))))) rfl (by kernel_rfl) (fun _ _ _ h => h) rfl rfl (.inl ⟨(wanted_n rfl), fun _ => run_idx te22 ts3 rfl hs571.len rfl hx907 hA911⟩) ?_
                    refine et_first (i := 9) (v := (Value.int .i64 x906)) rfl (by kernel_rfl) (fun _ _ _ h => h) rfl rfl (.inl ⟨(wanted_n rfl), fun w9 ⟨f9, hl9, h9⟩ => run_load1 (ad := (eAdr A568 ((x867.From).toNat * 1))) ta3 rfl (h9.fz (hcell_le hl9 (hc912 0 _ rfl)))⟩) hS ?_
                    refine et_pure (i := 10) (v := (Value.pointer (some ⟨b878, 2, none⟩))) rfl (by kernel_rfl) (fun _ _ _ h => h) rfl rfl (.inl ⟨(wanted_n rfl), fun _ => run_fieldAddr tf34_2 (o := 0) rfl⟩) ?_
                    refine et_first (i := 11) (v := (Value.int .i64 x867.Len)) rfl (by kernel_rfl) (fun _ _ _ h => h) rfl rfl (.inl ⟨(wanted_n rfl), fun w9 ⟨f9, hl9, h9⟩ => run_load1 (ad := ⟨b878, 2, none⟩) ta3 rfl (wd_cell 0 h9 rfl rfl)⟩) hS ?_
                    refine et_pure (i := 12) (v := (Value.int .i64 (w64 (x906 + x867.Len)))) rfl (by kernel_rfl) (fun _ _ _ h => h) rfl rfl (.inl ⟨(wanted_n rfl), fun _ => run_pev (v := (Value.int .i64 (w64 (x906 + x867.Len)))) rfl⟩) ?_
                    refine et_pure (i := 13) (v := (Value.bool (decide (x898 < (w64 (x906 + x867.Len)))))) rfl (by kernel_rfl) (fun _ _ _ h => h) rfl rfl (.inl ⟨(wanted_n rfl), fun _ => run_pev (v := (Value.bool (decide (x898 < (w64 (x906 + x867.Len)))))) rfl⟩) ?_
                    refine et_tail rfl ?_
                    refine ey_done rfl ?_
                    refine ewp_cond (decide (x898 < (w64 (x906 + x867.Len)))) rfl (fun hb914 => ?_) (fun hb914 => ?_)
                    · replace h := ifb_t hb914 h
                      refine ewp_seq ?_
                      refine ewp_region ?_
                      refine el_val (v := (Value.bool false)) (wanted_n rfl) rfl rfl (run_pev (v := (Value.bool false)) rfl) ?_
                      refine el_nil ?_
                      refine ewp_ret ?_
                      replace hw := hw.drop_0
                      replace hw := hw.drop_0
                      replace hw := hw.drop_0
                      obtain rfl := Option.some.inj h
                      refine ⟨_, rfl, fun hf => ⟨_, hf, fun hr => ?_⟩⟩
                      subst hr
                      exact ⟨_, res1 rfl, f832, (HP.le_trans (HP.le_trans (HP.le_trans (HP.le_trans (HP.le_trans (HP.le_trans hle520 hle526) hle546) hle567) hle592) hle660) hle833), rfl, hw⟩
                    · replace h := ifb_f hb914 h
                      refine ewp_skip ?_
                      refine ewp_region ?_
                      refine el_val (v := (Value.int .i64 (w64 ((i866 : Int) + 1)))) (wanted_n rfl) rfl rfl (run_pev (v := (Value.int .i64 (w64 ((i866 : Int) + 1)))) rfl) ?_
                      refine el_val (v := (Value.int .i64 (w64 ((i866 : Int) + 1)))) (wanted_n rfl) rfl rfl (run_pev (v := (Value.int .i64 (w64 ((i866 : Int) + 1)))) rfl) ?_
                      refine el_nil ?_
                      replace hw := hw.drop_0
                      obtain rfl := Option.some.inj h
                      exact ⟨_, rfl, f832, hle833, ⟨rfl, rfl, rfl, rfl, rfl, rfl, rfl, (congrArg (Value.int .i64) (succ_w64 hk666.room hx)), trivial⟩, hw⟩
                  · rintro s831 ρ915 w916 hfin917 ⟨f832, hle833, hl834, hw⟩
                    first | refine ewp_live hl834 fun ρ918 => ?_ | rw [← hl834.eq]
                    replace hs5 := hs5.mono hle833
                    replace hs9 := hs9.mono hle833
                    replace hs13 := hs13.mono hle833
                    replace hs17 := hs17.mono hle833
                    replace hs21 := hs21.mono hle833
                    replace hs26 := hs26.mono hle833
                    replace hs31 := hs31.mono hle833
                    replace hs571 := hs571.mono hle833
                    replace hk666 := hk666.mono hle833
                    refine ewp_seq ?_
                    refine ewp_region ?_
                    refine el_val (v := (Value.bool (decide ((s658.length : Int) < (s658.length : Int))))) (wanted_n rfl) rfl rfl (run_pev (v := (Value.bool (decide ((s658.length : Int) < (s658.length : Int))))) rfl) ?_
                    refine el_nil ?_
                    refine ewp_seq ?_
                    refine ewp_cond_f rfl (nlt_self _) ?_
                    refine ewp_exit ?_
                    exact ⟨s831, hfin917, f832, hle833, ⟨rfl, rfl, rfl, rfl, rfl, trivial⟩, hw⟩
                · rintro ρ919 w920 ⟨s831, rfl, f832, hle833, hl834, hw⟩
                  replace h := on_go h
                  first | refine ewp_live hl834 fun ρ921 => ?_ | rw [← hl834.eq]
                  replace hs5 := hs5.mono hle833
                  replace hs9 := hs9.mono hle833
                  replace hs13 := hs13.mono hle833
                  replace hs17 := hs17.mono hle833
                  replace hs21 := hs21.mono hle833
                  replace hs26 := hs26.mono hle833
                  replace hs31 := hs31.mono hle833
                  replace hs571 := hs571.mono hle833
                  replace hk666 := hk666.mono hle833
                  refine ewp_seq ?_
                  refine ewp_seq ?_
                  refine ewp_region ?_
                  refine el_val (v := (Value.slice A568 n569 c570)) (wanted_n rfl) rfl rfl (run_pev (v := (Value.slice A568 n569 c570)) rfl) ?_
                  refine el_val (v := (Value.int .i64 (x564.1.length : Int))) (wanted_n rfl) rfl rfl (run_lenS te22 rfl hs571.len) ?_
                  refine el_val (v := (Value.int .i64 0)) (wanted_n rfl) rfl rfl (run_pev (v := (Value.int .i64 0)) rfl) ?_
                  refine el_nil ?_
                  obtain ⟨c1042, hc1043, h⟩ := bind_some h
                  refine ewp_M (fun ρ' w' => ∃ s922, c1042 = .go s922 ∧ ∃ (f923 : HP), HP.le f832 f923 ∧ Live ρ' [(1, (Value.slice A23 n24 c25)), (2, (Value.slice A28 n29 c30)), (3, (Value.pointer (some ⟨b514, 0, none⟩))), (7, (Value.slice A568 n569 c570))] ∧ Wd G w' f923 (Arr A662 c664 cur665 :: Blk b514 (.cells (List.toArray [(Value.slice A2 n3 c4), (Value.slice A6 n7 c8), (Value.slice A10 n11 c12), (Value.slice A14 n15 c16), (Value.slice A18 n19 c20)]) 26 (0, 0)) :: L)) (fun ρ' w' => ∃ x_, c1042 = .out x_ ∧ (x_ = r → RetPost Try.prog Try.f3 (fishkeep2_MendLeast.R G f L A2 n3 c4 A6 n7 c8 A10 n11 c12 A14 n15 c16 A18 n19 c20 A23 n24 c25 A28 n29 c30 p1 p22 p27 r) .ret ρ' w')) noX ?_ ?_ ?_ ?_
                  · refine ewp_block ?_
                    refine ewp_forC (fun (i1044 : Nat) (s922 : Unit) ρ' w' => ∃ (f923 : HP), HP.le f832 f923 ∧ Live ρ' [(1, (Value.slice A23 n24 c25)), (2, (Value.slice A28 n29 c30)), (3, (Value.pointer (some ⟨b514, 0, none⟩))), (7, (Value.slice A568 n569 c570)), (9, (Value.slice A662 n663 c664)), (105, (Value.slice A568 n569 c570)), (106, (Value.int .i64 (x564.1.length : Int))), (107, (Value.int .i64 (i1044 : Int)))] ∧ Wd G w' f923 (Arr A662 c664 cur665 :: Blk b514 (.cells (List.toArray [(Value.slice A2 n3 c4), (Value.slice A6 n7 c8), (Value.slice A10 n11 c12), (Value.slice A14 n15 c16), (Value.slice A18 n19 c20)]) 26 (0, 0)) :: L)) hc1043 ⟨f832, (HP.le_refl _), ⟨rfl, rfl, rfl, rfl, rfl, rfl, rfl, rfl, trivial⟩, hw⟩ ?_ ?_
                    · rintro i1044 x1045 s922 ct1048 ρ1046 w1047 hx h ⟨f923, hle924, hl925, hw⟩
                      unfold fishkeep2_MendLeast_b10 at h
                      first | refine ewp_live hl925 fun ρ1049 => ?_ | rw [← hl925.eq]
                      replace hs5 := hs5.mono hle924
                      replace hs9 := hs9.mono hle924
                      replace hs13 := hs13.mono hle924
                      replace hs17 := hs17.mono hle924
                      replace hs21 := hs21.mono hle924
                      replace hs26 := hs26.mono hle924
                      replace hs31 := hs31.mono hle924
                      replace hs571 := hs571.mono hle924
                      replace hk666 := hk666.mono hle924
                      refine ewp_seq ?_
                      refine ewp_region ?_
                      refine el_val (v := (Value.bool (decide ((i1044 : Int) < (x564.1.length : Int))))) (wanted_n rfl) rfl rfl (run_pev (v := (Value.bool (decide ((i1044 : Int) < (x564.1.length : Int))))) rfl) ?_
                      refine el_nil ?_
                      refine ewp_seq ?_
                      refine ewp_cond_t rfl (lt_len hx) ?_
                      refine ewp_skip ?_
                      refine ewp_seq ?_
                      refine ewp_block ?_
                      refine ewp_seq ?_
                      refine ewp_region ?_
                      refine el_val (v := (Value.int .i64 (i1044 : Int))) (wanted_n rfl) rfl rfl (run_pev (v := (Value.int .i64 (i1044 : Int))) rfl) ?_
                      obtain ⟨b1050, of1051, es1052, hA1053, hc1054, he1055⟩ := sl_el hs571 (idx_nat hx)
                      obtain rfl : es1052 = _ := he1055
                      refine el_val (v := (Value.pointer (some (eAdr A568 (((i1044 : Int)).toNat * 1))))) (wanted_n rfl) rfl rfl (run_idx te22 ts3 rfl hs571.len rfl (idx_nat hx) hA1053) ?_
                      refine el_val (v := (Value.int .i64 x1045)) (wanted_n rfl) rfl rfl (run_load1 (ad := (eAdr A568 (((i1044 : Int)).toNat * 1))) ta3 rfl (hw.fz (hc1054 0 _ rfl))) ?_
                      refine el_val (v := (Value.int .i64 (i1044 : Int))) (wanted_n rfl) rfl rfl (run_pev (v := (Value.int .i64 (i1044 : Int))) rfl) ?_
                      refine el_val (v := (Value.int .i64 x1045)) (wanted_n rfl) rfl rfl (run_pev (v := (Value.int .i64 x1045)) rfl) ?_
                      refine el_nil ?_
                      refine ewp_seq ?_
                      refine ewp_region ?_
                      refine el_val (v := (Value.int .i64 x1045)) (wanted_n rfl) rfl rfl (run_pev (v := (Value.int .i64 x1045)) rfl) ?_
                      refine el_val (v := (Value.pointer (some ⟨b514, 0, none⟩))) (wanted_n rfl) rfl rfl (run_fieldAddr tf26_0 (o := 0) rfl) ?_
                      refine el_val (v := (Value.slice A2 n3 c4)) (wanted_n rfl) rfl rfl (run_load1 (ad := ⟨b514, 0, none⟩) ta22 rfl (wd_cell 1 hw rfl rfl)) ?_
                      refine el_val (v := (Value.int .i64 (i1044 : Int))) (wanted_n rfl) rfl rfl (run_pev (v := (Value.int .i64 (i1044 : Int))) rfl) ?_
                      obtain ⟨x1056, hx1057, h⟩ := bind_some h
                      obtain ⟨b1058, of1059, es1060, hA1061, hc1062, he1063⟩ := sl_el hs5 hx1057
                      obtain rfl : es1060 = _ := he1063
                      refine el_val (v := (Value.pointer (some (eAdr A2 (((i1044 : Int)).toNat * 1))))) (wanted_n rfl) rfl rfl (run_idx te22 ts3 rfl hs5.len rfl hx1057 hA1061) ?_
                      refine el_val (v := (Value.int .i64 x1056)) (wanted_n rfl) rfl rfl (run_load1 (ad := (eAdr A2 (((i1044 : Int)).toNat * 1))) ta3 rfl (hw.fz (hc1062 0 _ rfl))) ?_
                      refine el_val (v := (Value.bool (x1045 == x1056))) (wanted_n rfl) rfl rfl (run_pev (v := (Value.bool (x1045 == x1056))) rfl) ?_
                      refine el_val (v := (Value.bool (x1045 == x1056))) (wanted_n rfl) rfl rfl (run_pev (v := (Value.bool (x1045 == x1056))) rfl) ?_
                      refine el_nil ?_
                      refine ewp_seq ?_
                      refine ewp_seq ?_
                      refine ewp_region ?_
                      refine el_val (v := (Value.slice A662 n663 c664)) (wanted_n rfl) rfl rfl (run_pev (v := (Value.slice A662 n663 c664)) rfl) ?_
                      refine el_val (v := (Value.int .i64 (s658.length : Int))) (wanted_n rfl) rfl rfl (run_lenS te23 rfl hk666.len) ?_
                      refine el_val (v := (Value.int .i64 0)) (wanted_n rfl) rfl rfl (run_pev (v := (Value.int .i64 0)) rfl) ?_
                      refine el_nil ?_
                      obtain ⟨c1132, hc1133, h⟩ := bind_some h
                      refine ewp_M (fun ρ' w' => ∃ s1098, c1132 = .go s1098 ∧ ∃ (f1099 : HP), HP.le f923 f1099 ∧ Live ρ' [(1, (Value.slice A23 n24 c25)), (2, (Value.slice A28 n29 c30)), (3, (Value.pointer (some ⟨b514, 0, none⟩))), (7, (Value.slice A568 n569 c570)), (9, (Value.slice A662 n663 c664)), (14, (Value.int .i64 (i1044 : Int))), (15, (Value.int .i64 x1045)), (16, (Value.bool s1098)), (105, (Value.slice A568 n569 c570)), (106, (Value.int .i64 (x564.1.length : Int))), (107, (Value.int .i64 (i1044 : Int)))] ∧ Wd G w' f1099 (Arr A662 c664 cur665 :: Blk b514 (.cells (List.toArray [(Value.slice A2 n3 c4), (Value.slice A6 n7 c8), (Value.slice A10 n11 c12), (Value.slice A14 n15 c16), (Value.slice A18 n19 c20)]) 26 (0, 0)) :: L)) noE noX ?_ ?_ ?_ ?_
                      · refine ewp_block ?_
                        refine ewp_forC (fun (i1134 : Nat) (s1098 : Bool) ρ' w' => ∃ (f1099 : HP), HP.le f923 f1099 ∧ Live ρ' [(1, (Value.slice A23 n24 c25)), (2, (Value.slice A28 n29 c30)), (3, (Value.pointer (some ⟨b514, 0, none⟩))), (7, (Value.slice A568 n569 c570)), (9, (Value.slice A662 n663 c664)), (14, (Value.int .i64 (i1044 : Int))), (15, (Value.int .i64 x1045)), (16, (Value.bool s1098)), (105, (Value.slice A568 n569 c570)), (106, (Value.int .i64 (x564.1.length : Int))), (107, (Value.int .i64 (i1044 : Int))), (119, (Value.slice A662 n663 c664)), (120, (Value.int .i64 (s658.length : Int))), (121, (Value.int .i64 (i1134 : Int)))] ∧ Wd G w' f1099 (Arr A662 c664 cur665 :: Blk b514 (.cells (List.toArray [(Value.slice A2 n3 c4), (Value.slice A6 n7 c8), (Value.slice A10 n11 c12), (Value.slice A14 n15 c16), (Value.slice A18 n19 c20)]) 26 (0, 0)) :: L)) hc1133 ⟨f923, (HP.le_refl _), ⟨rfl, rfl, rfl, rfl, rfl, rfl, rfl, rfl, rfl, rfl, rfl, rfl, rfl, rfl, trivial⟩, hw⟩ ?_ ?_
                        · rintro i1134 x1135 s1098 ct1138 ρ1136 w1137 hx h ⟨f1099, hle1100, hl1101, hw⟩
                          unfold fishkeep2_MendLeast_b11 at h
                          first | refine ewp_live hl1101 fun ρ1139 => ?_ | rw [← hl1101.eq]
                          replace hs5 := hs5.mono hle1100
                          replace hs9 := hs9.mono hle1100
                          replace hs13 := hs13.mono hle1100
                          replace hs17 := hs17.mono hle1100
                          replace hs21 := hs21.mono hle1100
                          replace hs26 := hs26.mono hle1100
                          replace hs31 := hs31.mono hle1100
                          replace hs571 := hs571.mono hle1100
                          replace hk666 := hk666.mono hle1100
                          replace hc1054 := fun j v hv => hcell_le hle1100 (hc1054 j v hv)
                          replace hc1062 := fun j v hv => hcell_le hle1100 (hc1062 j v hv)
                          refine ewp_seq ?_
                          refine ewp_region ?_
                          refine el_val (v := (Value.bool (decide ((i1134 : Int) < (s658.length : Int))))) (wanted_n rfl) rfl rfl (run_pev (v := (Value.bool (decide ((i1134 : Int) < (s658.length : Int))))) rfl) ?_
                          refine el_nil ?_
                          refine ewp_seq ?_
                          refine ewp_cond_t rfl (lt_len hx) ?_
                          refine ewp_skip ?_
                          refine ewp_seq ?_
                          obtain ⟨s1164, hc1168, h⟩ := bind_some h
                          refine ewp_N (fun ρ' w' => ∃ (f1165 : HP), HP.le f1099 f1165 ∧ Live ρ' [(1, (Value.slice A23 n24 c25)), (2, (Value.slice A28 n29 c30)), (3, (Value.pointer (some ⟨b514, 0, none⟩))), (7, (Value.slice A568 n569 c570)), (9, (Value.slice A662 n663 c664)), (14, (Value.int .i64 (i1044 : Int))), (15, (Value.int .i64 x1045)), (16, (Value.bool s1164)), (105, (Value.slice A568 n569 c570)), (106, (Value.int .i64 (x564.1.length : Int))), (107, (Value.int .i64 (i1044 : Int))), (119, (Value.slice A662 n663 c664)), (120, (Value.int .i64 (s658.length : Int))), (121, (Value.int .i64 (i1134 : Int)))] ∧ Wd G w' f1165 (Arr A662 c664 cur665 :: Blk b514 (.cells (List.toArray [(Value.slice A2 n3 c4), (Value.slice A6 n7 c8), (Value.slice A10 n11 c12), (Value.slice A14 n15 c16), (Value.slice A18 n19 c20)]) 26 (0, 0)) :: L)) ?_ ?_
                          · replace h := hc1168
                            refine ewp_block ?_
                            refine ewp_seq ?_
                            refine ewp_region ?_
                            obtain ⟨b1169, of1170, es1171, hA1172, hc1173, he1174⟩ := arr_el hk666 (idx_nat hx)
                            obtain rfl := fS_mend_Arc.op he1174
                            refine el_val (v := (Value.pointer (some (eAdr A662 (((i1134 : Int)).toNat * 3))))) (wanted_n rfl) rfl rfl (run_idx te23 ts34 rfl hk666.len rfl (idx_nat hx) hA1172) ?_
                            refine el_val (v := (Value.agg #[(Value.int .i64 x1135.From), (Value.int .i64 x1135.To), (Value.int .i64 x1135.Len)])) (wanted_n rfl) rfl rfl (run_loadN (ad := (eAdr A662 (((i1134 : Int)).toNat * 3))) (cs := [(Value.int .i64 x1135.From), (Value.int .i64 x1135.To), (Value.int .i64 x1135.Len)]) ta34 ts34 rfl rfl (arr_cells 0 hw rfl hA1172 hc1173)) ?_
                            refine el_exv (wanted_n rfl) rfl rfl (run_allocE (cs := [(Value.int .i64 0), (Value.int .i64 0), (Value.int .i64 0)]) tz34 rfl hw) ?_
                            rintro w1177 _ ⟨b1175, rfl, hw⟩
                            refine el_exu (wanted_n rfl) rfl (run_blkSetE (new := List.toArray [(Value.int .i64 x1135.From), (Value.int .i64 x1135.To), (Value.int .i64 x1135.Len)]) hw rfl rfl ts34 rfl rfl rfl) ?_
                            rintro w1178 hw
                            refine el_nil ?_
                            refine ewp_draw (SW G f1099 (Blk b1175 (.cells (List.toArray [(Value.int .i64 x1135.From), (Value.int .i64 x1135.To), (Value.int .i64 x1135.Len)]) 34 (0, 0)) :: Arr A662 c664 cur665 :: Blk b514 (.cells (List.toArray [(Value.slice A2 n3 c4), (Value.slice A6 n7 c8), (Value.slice A10 n11 c12), (Value.slice A14 n15 c16), (Value.slice A18 n19 c20)]) 26 (0, 0)) :: L)) [] 19 mixed ?_
                            replace hw := hw.drew
                            have hS := SW.of hw
                            refine et_pure (i := 0) (v := (Value.bool s1098)) rfl (by kernel_rfl) (fun _ _ _ h => h) rfl rfl (.inl ⟨(wanted_n rfl), fun _ => run_pev (v := (Value.bool s1098)) rfl⟩) ?_
                            refine et_pure (i := 1) (v := (Value.bool s1098)) rfl (by kernel_rfl) (fun _ _ _ h => h) rfl rfl (.inl ⟨(wanted_n rfl), fun _ => run_pev (v := (Value.bool s1098)) rfl⟩) ?_
                            rcases Bool.eq_false_or_eq_true s1098 with hb1189 | hb1189
                            · replace h := ifb_t hb1189 h
                              refine et_pure (i := 2) rfl (by kernel_rfl) (fun _ _ _ h => h) rfl rfl (.inr ⟨(wanted_f rfl rfl rfl hb1189), rfl⟩) ?_
                              refine et_pure (i := 3) rfl (by kernel_rfl) (fun _ _ _ h => h) rfl rfl (.inr ⟨(wanted_f rfl rfl rfl hb1189), rfl⟩) ?_
                              refine et_pure (i := 4) rfl (by kernel_rfl) (fun _ _ _ h => h) rfl rfl (.inr ⟨(wanted_f rfl rfl rfl hb1189), rfl⟩) ?_
                              refine et_pure (i := 5) rfl (by kernel_rfl) (fun _ _ _ h => h) rfl rfl (.inr ⟨(wanted_f rfl rfl rfl hb1189), rfl⟩) ?_
                              refine et_pure (i := 6) rfl (by kernel_rfl) (fun _ _ _ h => h) rfl rfl (.inr ⟨(wanted_f rfl rfl rfl hb1189), rfl⟩) ?_
                              refine et_pure (i := 7) rfl (by kernel_rfl) (fun _ _ _ h => h) rfl rfl (.inr ⟨(wanted_u rfl rfl rfl), rfl⟩) ?_
                              refine et_pure (i := 8) rfl (by kernel_rfl) (fun _ _ _ h => h) rfl rfl (.inr ⟨(wanted_u rfl rfl rfl), rfl⟩) ?_
                              refine et_pure (i := 9) rfl (by kernel_rfl) (fun _ _ _ h => h) rfl rfl (.inr ⟨(wanted_u rfl rfl rfl), rfl⟩) ?_
                              refine et_pure (i := 10) rfl (by kernel_rfl) (fun _ _ _ h => h) rfl rfl (.inr ⟨(wanted_u rfl rfl rfl), rfl⟩) ?_
                              refine et_pure (i := 11) rfl (by kernel_rfl) (fun _ _ _ h => h) rfl rfl (.inr ⟨(wanted_u rfl rfl rfl), rfl⟩) ?_
                              refine et_pure (i := 12) rfl (by kernel_rfl) (fun _ _ _ h => h) rfl rfl (.inr ⟨(wanted_u rfl rfl rfl), rfl⟩) ?_
                              refine et_pure (i := 13) rfl (by kernel_rfl) (fun _ _ _ h => h) rfl rfl (.inr ⟨(wanted_u rfl rfl rfl), rfl⟩) ?_
                              refine et_pure (i := 14) rfl (by kernel_rfl) (fun _ _ _ h => h) rfl rfl (.inr ⟨(wanted_u rfl rfl rfl), rfl⟩) ?_
                              refine et_pure (i := 15) rfl (by kernel_rfl) (fun _ _ _ h => h) rfl rfl (.inr ⟨(wanted_u rfl rfl rfl), rfl⟩) ?_
                              refine et_pure (i := 16) rfl (by kernel_rfl) (fun _ _ _ h => h) rfl rfl (.inr ⟨(wanted_u rfl rfl rfl), rfl⟩) ?_
                              refine et_pure (i := 17) rfl (by kernel_rfl) (fun _ _ _ h => h) rfl rfl (.inr ⟨(wanted_f rfl rfl rfl hb1189), rfl⟩) ?_
                              refine et_pure (i := 18) (v := (Value.bool true)) rfl (by kernel_rfl) (fun _ _ _ h => h) rfl rfl (.inl ⟨(wanted_n rfl), fun _ => run_pick_t rfl hb1189 rfl⟩) ?_
                              refine et_tail rfl ?_
                              refine ey_one (i := 19) (by kernel_rfl) ?_
                              refine eo_val (v := (Value.bool true)) rfl (wanted_n rfl) rfl rfl (run_pev (v := (Value.bool true)) rfl) ?_
                              refine ey_done rfl ?_
                              replace hw := hw.drop_0
                              obtain rfl := Option.some.inj h
                              exact ⟨f1099, (HP.le_refl _), ⟨rfl, rfl, rfl, rfl, rfl, rfl, rfl, rfl, rfl, rfl, rfl, rfl, rfl, rfl, trivial⟩, hw⟩
                            · replace h := ifb_f hb1189 h
                              refine et_pure (i := 2) (v := (Value.pointer (some ⟨b1175, 1, none⟩))) rfl (by kernel_rfl) (fun _ _ _ h => h) rfl rfl (.inl ⟨(wanted_y rfl rfl rfl hb1189), fun _ => run_fieldAddr tf34_1 (o := 0) rfl⟩) ?_
                              refine et_first (i := 3) (v := (Value.int .i64 x1135.To)) rfl (by kernel_rfl) (fun _ _ _ h => h) rfl rfl (.inl ⟨(wanted_y rfl rfl rfl hb1189), fun w9 ⟨f9, hl9, h9⟩ => run_load1 (ad := ⟨b1175, 1, none⟩) ta3 rfl (wd_cell 0 h9 rfl rfl)⟩) hS ?_
                              refine et_pure (i := 4) (v := (Value.int .i64 (i1044 : Int))) rfl (by kernel_rfl) (fun _ _ _ h => h) rfl rfl (.inl ⟨(wanted_y rfl rfl rfl hb1189), fun _ => run_pev (v := (Value.int .i64 (i1044 : Int))) rfl⟩) ?_
                              refine et_pure (i := 5) (v := (Value.bool (x1135.To == (i1044 : Int)))) rfl (by kernel_rfl) (fun _ _ _ h => h) rfl rfl (.inl ⟨(wanted_y rfl rfl rfl hb1189), fun _ => run_pev (v := (Value.bool (x1135.To == (i1044 : Int)))) rfl⟩) ?_
                              refine et_pure (i := 6) (v := (Value.bool (x1135.To == (i1044 : Int)))) rfl (by kernel_rfl) (fun _ _ _ h => h) rfl rfl (.inl ⟨(wanted_y rfl rfl rfl hb1189), fun _ => run_pev (v := (Value.bool (x1135.To == (i1044 : Int)))) rfl⟩) ?_
                              rcases Bool.eq_false_or_eq_true (x1135.To == (i1044 : Int)) with hb1190 | hb1190
                              · replace h := ifb_t hb1190 h
                                refine et_pure (i := 7) (v := (Value.int .i64 x1045)) rfl (by kernel_rfl) (fun _ _ _ h => h) rfl rfl (.inl ⟨(wanted_y rfl rfl rfl hb1190), fun _ => run_pev (v := (Value.int .i64 x1045)) rfl⟩) ?_
                                refine et_pure (i := 8) (v := (Value.slice A568 n569 c570)) rfl (by kernel_rfl) (fun _ _ _ h => h) rfl rfl (.inl ⟨(wanted_y rfl rfl rfl hb1190), fun _ => run_pev (v := (Value.slice A568 n569 c570)) rfl⟩) ?_
                                refine et_pure (i := 9) (v := (Value.pointer (some ⟨b1175, 0, none⟩))) rfl (by kernel_rfl) (fun _ _ _ h => h) rfl rfl (.inl ⟨(wanted_y rfl rfl rfl hb1190), fun _ => run_fieldAddr tf34_0 (o := 0) rfl⟩) ?_
                                refine et_first (i := 10) (v := (Value.int .i64 x1135.From)) rfl (by kernel_rfl) (fun _ _ _ h => h) rfl rfl (.inl ⟨(wanted_y rfl rfl rfl hb1190), fun w9 ⟨f9, hl9, h9⟩ => run_load1 (ad := ⟨b1175, 0, none⟩) ta3 rfl (wd_cell 0 h9 rfl rfl)⟩) hS ?_
                                obtain ⟨x1191, hx1192, h⟩ := bind_some h
                                obtain ⟨b1193, of1194, es1195, hA1196, hc1197, he1198⟩ := sl_el hs571 hx1192
                                obtain rfl : es1195 = _ := he1198
                                refine et_pure (i := 11) (v := (Value.pointer (some (eAdr A568 ((x1135.From).toNat * 1))))) rfl (by kernel_rfl) (fun _ _ _ h => h) rfl rfl (.inl ⟨(wanted_y rfl rfl rfl hb1190), fun _ => run_idx te22 ts3 rfl hs571.len rfl hx1192 hA1196⟩) ?_
                                refine et_first (i := 12) (v := (Value.int .i64 x1191)) rfl (by kernel_rfl) (fun _ _ _ h => h) rfl rfl (.inl ⟨(wanted_y rfl rfl rfl hb1190), fun w9 ⟨f9, hl9, h9⟩ => run_load1 (ad := (eAdr A568 ((x1135.From).toNat * 1))) ta3 rfl (h9.fz (hcell_le hl9 (hc1197 0 _ rfl)))⟩) hS ?_
                                refine et_pure (i := 13) (v := (Value.pointer (some ⟨b1175, 2, none⟩))) rfl (by kernel_rfl) (fun _ _ _ h => h) rfl rfl (.inl ⟨(wanted_y rfl rfl rfl hb1190), fun _ => run_fieldAddr tf34_2 (o := 0) rfl⟩) ?_
                                refine et_first (i := 14) (v := (Value.int .i64 x1135.Len)) rfl (by kernel_rfl) (fun _ _ _ h => h) rfl rfl (.inl ⟨(wanted_y rfl rfl rfl hb1190), fun w9 ⟨f9, hl9, h9⟩ => run_load1 (ad := ⟨b1175, 2, none⟩) ta3 rfl (wd_cell 0 h9 rfl rfl)⟩) hS ?_
                                refine et_pure (i := 15) (v := (Value.int .i64 (w64 (x1191 + x1135.Len)))) rfl (by kernel_rfl) (fun _ _ _ h => h) rfl rfl (.inl ⟨(wanted_y rfl rfl rfl hb1190), fun _ => run_pev (v := (Value.int .i64 (w64 (x1191 + x1135.Len)))) rfl⟩) ?_
                                refine et_pure (i := 16) (v := (Value.bool (x1045 == (w64 (x1191 + x1135.Len))))) rfl (by kernel_rfl) (fun _ _ _ h => h) rfl rfl (.inl ⟨(wanted_y rfl rfl rfl hb1190), fun _ => run_pev (v := (Value.bool (x1045 == (w64 (x1191 + x1135.Len))))) rfl⟩) ?_
                                refine et_pure (i := 17) (v := (Value.bool (x1045 == (w64 (x1191 + x1135.Len))))) rfl (by kernel_rfl) (fun _ _ _ h => h) rfl rfl (.inl ⟨(wanted_y rfl rfl rfl hb1189), fun _ => run_pick_t rfl hb1190 rfl⟩) ?_
                                refine et_pure (i := 18) (v := (Value.bool (x1045 == (w64 (x1191 + x1135.Len))))) rfl (by kernel_rfl) (fun _ _ _ h => h) rfl rfl (.inl ⟨(wanted_n rfl), fun _ => run_pick_f rfl hb1189 rfl⟩) ?_
                                refine et_tail rfl ?_
                                refine ey_one (i := 19) (by kernel_rfl) ?_
                                refine eo_val (v := (Value.bool (x1045 == (w64 (x1191 + x1135.Len))))) rfl (wanted_n rfl) rfl rfl (run_pev (v := (Value.bool (x1045 == (w64 (x1191 + x1135.Len))))) rfl) ?_
                                refine ey_done rfl ?_
                                replace hw := hw.drop_0
                                obtain rfl := Option.some.inj h
                                exact ⟨f1099, (HP.le_refl _), ⟨rfl, rfl, rfl, rfl, rfl, rfl, rfl, rfl, rfl, rfl, rfl, rfl, rfl, rfl, trivial⟩, hw⟩
                              · replace h := ifb_f hb1190 h
                                refine et_pure (i := 7) rfl (by kernel_rfl) (fun _ _ _ h => h) rfl rfl (.inr ⟨(wanted_f rfl rfl rfl hb1190), rfl⟩) ?_
                                refine et_pure (i := 8) rfl (by kernel_rfl) (fun _ _ _ h => h) rfl rfl (.inr ⟨(wanted_f rfl rfl rfl hb1190), rfl⟩) ?_
                                refine et_pure (i := 9) rfl (by kernel_rfl) (fun _ _ _ h => h) rfl rfl (.inr ⟨(wanted_f rfl rfl rfl hb1190), rfl⟩) ?_
                                refine et_pure (i := 10) rfl (by kernel_rfl) (fun _ _ _ h => h) rfl rfl (.inr ⟨(wanted_f rfl rfl rfl hb1190), rfl⟩) ?_
                                refine et_pure (i := 11) rfl (by kernel_rfl) (fun _ _ _ h => h) rfl rfl (.inr ⟨(wanted_f rfl rfl rfl hb1190), rfl⟩) ?_
                                refine et_pure (i := 12) rfl (by kernel_rfl) (fun _ _ _ h => h) rfl rfl (.inr ⟨(wanted_f rfl rfl rfl hb1190), rfl⟩) ?_
                                refine et_pure (i := 13) rfl (by kernel_rfl) (fun _ _ _ h => h) rfl rfl (.inr ⟨(wanted_f rfl rfl rfl hb1190), rfl⟩) ?_
                                refine et_pure (i := 14) rfl (by kernel_rfl) (fun _ _ _ h => h) rfl rfl (.inr ⟨(wanted_f rfl rfl rfl hb1190), rfl⟩) ?_
                                refine et_pure (i := 15) rfl (by kernel_rfl) (fun _ _ _ h => h) rfl rfl (.inr ⟨(wanted_f rfl rfl rfl hb1190), rfl⟩) ?_
                                refine et_pure (i := 16) rfl (by kernel_rfl) (fun _ _ _ h => h) rfl rfl (.inr ⟨(wanted_f rfl rfl rfl hb1190), rfl⟩) ?_
                                refine et_pure (i := 17) (v := (Value.bool false)) rfl (by kernel_rfl) (fun _ _ _ h => h) rfl rfl (.inl ⟨(wanted_y rfl rfl rfl hb1189), fun _ => run_pick_f rfl hb1190 rfl⟩) ?_
                                refine et_pure (i := 18) (v := (Value.bool false)) rfl (by kernel_rfl) (fun _ _ _ h => h) rfl rfl (.inl ⟨(wanted_n rfl), fun _ => run_pick_f rfl hb1189 rfl⟩) ?_
                                refine et_tail rfl ?_
                                refine ey_one (i := 19) (by kernel_rfl) ?_
                                refine eo_val (v := (Value.bool false)) rfl (wanted_n rfl) rfl rfl (run_pev (v := (Value.bool false)) rfl) ?_
                                refine ey_done rfl ?_
                                replace hw := hw.drop_0
                                obtain rfl := Option.some.inj h
                                exact ⟨f1099, (HP.le_refl _), ⟨rfl, rfl, rfl, rfl, rfl, rfl, rfl, rfl, rfl, rfl, rfl, rfl, rfl, rfl, trivial⟩, hw⟩
                          · rintro ρ1199 w1200 ⟨f1165, hle1166, hl1167, hw⟩
                            first | refine ewp_live hl1167 fun ρ1201 => ?_ | rw [← hl1167.eq]
                            replace hs5 := hs5.mono hle1166
                            replace hs9 := hs9.mono hle1166
                            replace hs13 := hs13.mono hle1166
                            replace hs17 := hs17.mono hle1166
                            replace hs21 := hs21.mono hle1166
                            replace hs26 := hs26.mono hle1166
                            replace hs31 := hs31.mono hle1166
                            replace hs571 := hs571.mono hle1166
                            replace hk666 := hk666.mono hle1166
                            replace hc1054 := fun j v hv => hcell_le hle1166 (hc1054 j v hv)
                            replace hc1062 := fun j v hv => hcell_le hle1166 (hc1062 j v hv)
                            refine ewp_region ?_
                            refine el_val (v := (Value.int .i64 (w64 ((i1134 : Int) + 1)))) (wanted_n rfl) rfl rfl (run_pev (v := (Value.int .i64 (w64 ((i1134 : Int) + 1)))) rfl) ?_
                            refine el_val (v := (Value.int .i64 (w64 ((i1134 : Int) + 1)))) (wanted_n rfl) rfl rfl (run_pev (v := (Value.int .i64 (w64 ((i1134 : Int) + 1)))) rfl) ?_
                            refine el_nil ?_
                            obtain rfl := Option.some.inj h
                            exact ⟨_, rfl, f1165, (HP.le_trans hle1100 hle1166), ⟨rfl, rfl, rfl, rfl, rfl, rfl, rfl, rfl, rfl, rfl, rfl, rfl, rfl, (congrArg (Value.int .i64) (succ_w64 hk666.room hx)), trivial⟩, hw⟩
                        · rintro s1098 ρ1202 w1203 hfin1204 ⟨f1099, hle1100, hl1101, hw⟩
                          first | refine ewp_live hl1101 fun ρ1205 => ?_ | rw [← hl1101.eq]
                          replace hs5 := hs5.mono hle1100
                          replace hs9 := hs9.mono hle1100
                          replace hs13 := hs13.mono hle1100
                          replace hs17 := hs17.mono hle1100
                          replace hs21 := hs21.mono hle1100
                          replace hs26 := hs26.mono hle1100
                          replace hs31 := hs31.mono hle1100
                          replace hs571 := hs571.mono hle1100
                          replace hk666 := hk666.mono hle1100
                          replace hc1054 := fun j v hv => hcell_le hle1100 (hc1054 j v hv)
                          replace hc1062 := fun j v hv => hcell_le hle1100 (hc1062 j v hv)
                          refine ewp_seq ?_
                          refine ewp_region ?_
                          refine el_val (v := (Value.bool (decide ((s658.length : Int) < (s658.length : Int))))) (wanted_n rfl) rfl rfl (run_pev (v := (Value.bool (decide ((s658.length : Int) < (s658.length : Int))))) rfl) ?_
                          refine el_nil ?_
                          refine ewp_seq ?_
                          refine ewp_cond_f rfl (nlt_self _) ?_
                          refine ewp_exit ?_
                          exact ⟨s1098, hfin1204, f1099, hle1100, ⟨rfl, rfl, rfl, rfl, rfl, rfl, rfl, rfl, rfl, rfl, rfl, trivial⟩, hw⟩
                      · rintro ρ1206 w1207 ⟨s1098, rfl, f1099, hle1100, hl1101, hw⟩
                        replace h := on_go h
                        first | refine ewp_live hl1101 fun ρ1208 => ?_ | rw [← hl1101.eq]
                        replace hs5 := hs5.mono hle1100
                        replace hs9 := hs9.mono hle1100
                        replace hs13 := hs13.mono hle1100
                        replace hs17 := hs17.mono hle1100
                        replace hs21 := hs21.mono hle1100
                        replace hs26 := hs26.mono hle1100
                        replace hs31 := hs31.mono hle1100
                        replace hs571 := hs571.mono hle1100
                        replace hk666 := hk666.mono hle1100
                        replace hc1054 := fun j v hv => hcell_le hle1100 (hc1054 j v hv)
                        replace hc1062 := fun j v hv => hcell_le hle1100 (hc1062 j v hv)
                        refine ewp_seq ?_
                        obtain ⟨s1236, hc1240, h⟩ := bind_some h
                        refine ewp_N (fun ρ' w' => ∃ (f1237 : HP), HP.le f1099 f1237 ∧ Live ρ' [(1, (Value.slice A23 n24 c25)), (2, (Value.slice A28 n29 c30)), (3, (Value.pointer (some ⟨b514, 0, none⟩))), (7, (Value.slice A568 n569 c570)), (9, (Value.slice A662 n663 c664)), (105, (Value.slice A568 n569 c570)), (106, (Value.int .i64 (x564.1.length : Int))), (107, (Value.int .i64 (i1044 : Int))), (172, (Value.bool s1236))] ∧ Wd G w' f1237 (Arr A662 c664 cur665 :: Blk b514 (.cells (List.toArray [(Value.slice A2 n3 c4), (Value.slice A6 n7 c8), (Value.slice A10 n11 c12), (Value.slice A14 n15 c16), (Value.slice A18 n19 c20)]) 26 (0, 0)) :: L)) ?_ ?_
                        · replace h := hc1240
                          refine ewp_region ?_
                          refine el_val (v := (Value.bool s1098)) (wanted_n rfl) rfl rfl (run_pev (v := (Value.bool s1098)) rfl) ?_
                          refine el_val (v := (Value.bool (!s1098))) (wanted_n rfl) rfl rfl (run_pev (v := (Value.bool (!s1098))) rfl) ?_
                          refine el_val (v := (Value.bool (!s1098))) (wanted_n rfl) rfl rfl (run_pev (v := (Value.bool (!s1098))) rfl) ?_
                          rcases Bool.eq_false_or_eq_true (!s1098) with hb1241 | hb1241
                          · replace h := ifb_t hb1241 h
                            refine el_pass (wanted_f rfl rfl rfl hb1241) rfl rfl ?_
                            refine el_pass (wanted_f rfl rfl rfl hb1241) rfl rfl ?_
                            refine el_pass (wanted_f rfl rfl rfl hb1241) rfl rfl ?_
                            refine el_pass (wanted_f rfl rfl rfl hb1241) rfl rfl ?_
                            refine el_pass (wanted_f rfl rfl rfl hb1241) rfl rfl ?_
                            refine el_pass (wanted_f rfl rfl rfl hb1241) rfl rfl ?_
                            refine el_pass (wanted_f rfl rfl rfl hb1241) rfl rfl ?_
                            refine el_val (v := (Value.bool true)) (wanted_n rfl) rfl rfl (run_pick_t rfl hb1241 rfl) ?_
                            refine el_val (v := (Value.bool true)) (wanted_n rfl) rfl rfl (run_pev (v := (Value.bool true)) rfl) ?_
                            refine el_pass (wanted_f rfl rfl rfl rfl) rfl rfl ?_
                            refine el_pass (wanted_f rfl rfl rfl rfl) rfl rfl ?_
                            refine el_pass (wanted_f rfl rfl rfl rfl) rfl rfl ?_
                            refine el_pass (wanted_f rfl rfl rfl rfl) rfl rfl ?_
                            refine el_pass (wanted_f rfl rfl rfl rfl) rfl rfl ?_
                            refine el_pass (wanted_f rfl rfl rfl rfl) rfl rfl ?_
                            refine el_pass (wanted_f rfl rfl rfl rfl) rfl rfl ?_
                            refine el_pass (wanted_u rfl rfl rfl) rfl rfl ?_
                            refine el_pass (wanted_u rfl rfl rfl) rfl rfl ?_
                            refine el_pass (wanted_u rfl rfl rfl) rfl rfl ?_
                            refine el_pass (wanted_u rfl rfl rfl) rfl rfl ?_
                            refine el_pass (wanted_u rfl rfl rfl) rfl rfl ?_
                            refine el_pass (wanted_u rfl rfl rfl) rfl rfl ?_
                            refine el_pass (wanted_u rfl rfl rfl) rfl rfl ?_
                            refine el_pass (wanted_f rfl rfl rfl rfl) rfl rfl ?_
                            refine el_val (v := (Value.bool true)) (wanted_n rfl) rfl rfl (run_pick_t rfl rfl rfl) ?_
                            refine el_nil ?_
                            obtain rfl := Option.some.inj h
                            exact ⟨f1099, (HP.le_refl _), ⟨rfl, rfl, rfl, rfl, rfl, rfl, rfl, rfl, rfl, trivial⟩, hw⟩
                          · replace h := ifb_f hb1241 h
                            refine el_val (v := (Value.int .i64 x1045)) (wanted_y rfl rfl rfl hb1241) rfl rfl (run_pev (v := (Value.int .i64 x1045)) rfl) ?_
                            refine el_val (v := (Value.pointer (some ⟨b514, 0, none⟩))) (wanted_y rfl rfl rfl hb1241) rfl rfl (run_fieldAddr tf26_0 (o := 0) rfl) ?_
                            refine el_val (v := (Value.slice A2 n3 c4)) (wanted_y rfl rfl rfl hb1241) rfl rfl (run_load1 (ad := ⟨b514, 0, none⟩) ta22 rfl (wd_cell 1 hw rfl rfl)) ?_
                            refine el_val (v := (Value.int .i64 (i1044 : Int))) (wanted_y rfl rfl rfl hb1241) rfl rfl (run_pev (v := (Value.int .i64 (i1044 : Int))) rfl) ?_
                            obtain ⟨b1242, of1243, es1244, hA1245, hc1246, he1247⟩ := sl_el hs5 hx1057
                            obtain rfl : es1244 = _ := he1247
                            refine el_val (v := (Value.pointer (some (eAdr A2 (((i1044 : Int)).toNat * 1))))) (wanted_y rfl rfl rfl hb1241) rfl rfl (run_idx te22 ts3 rfl hs5.len rfl hx1057 hA1245) ?_
                            refine el_val (v := (Value.int .i64 x1056)) (wanted_y rfl rfl rfl hb1241) rfl rfl (run_load1 (ad := (eAdr A2 (((i1044 : Int)).toNat * 1))) ta3 rfl (hw.fz (hc1246 0 _ rfl))) ?_
                            refine el_val (v := (Value.bool (decide (x1045 < x1056)))) (wanted_y rfl rfl rfl hb1241) rfl rfl (run_pev (v := (Value.bool (decide (x1045 < x1056)))) rfl) ?_
                            refine el_val (v := (Value.bool (decide (x1045 < x1056)))) (wanted_n rfl) rfl rfl (run_pick_f rfl hb1241 rfl) ?_
                            refine el_val (v := (Value.bool (decide (x1045 < x1056)))) (wanted_n rfl) rfl rfl (run_pev (v := (Value.bool (decide (x1045 < x1056)))) rfl) ?_
                            rcases Bool.eq_false_or_eq_true (decide (x1045 < x1056)) with hb1248 | hb1248
                            · replace h := ifb_t hb1248 h
                              refine el_pass (wanted_f rfl rfl rfl hb1248) rfl rfl ?_
                              refine el_pass (wanted_f rfl rfl rfl hb1248) rfl rfl ?_
                              refine el_pass (wanted_f rfl rfl rfl hb1248) rfl rfl ?_
                              refine el_pass (wanted_f rfl rfl rfl hb1248) rfl rfl ?_
                              refine el_pass (wanted_f rfl rfl rfl hb1248) rfl rfl ?_
                              refine el_pass (wanted_f rfl rfl rfl hb1248) rfl rfl ?_
                              refine el_pass (wanted_f rfl rfl rfl hb1248) rfl rfl ?_
                              refine el_pass (wanted_u rfl rfl rfl) rfl rfl ?_
                              refine el_pass (wanted_u rfl rfl rfl) rfl rfl ?_
                              refine el_pass (wanted_u rfl rfl rfl) rfl rfl ?_
                              refine el_pass (wanted_u rfl rfl rfl) rfl rfl ?_
                              refine el_pass (wanted_u rfl rfl rfl) rfl rfl ?_
                              refine el_pass (wanted_u rfl rfl rfl) rfl rfl ?_
                              refine el_pass (wanted_u rfl rfl rfl) rfl rfl ?_
                              refine el_pass (wanted_f rfl rfl rfl hb1248) rfl rfl ?_
                              refine el_val (v := (Value.bool true)) (wanted_n rfl) rfl rfl (run_pick_t rfl hb1248 rfl) ?_
                              refine el_nil ?_
                              obtain rfl := Option.some.inj h
                              exact ⟨f1099, (HP.le_refl _), ⟨rfl, rfl, rfl, rfl, rfl, rfl, rfl, rfl, rfl, trivial⟩, hw⟩
                            · replace h := ifb_f hb1248 h
                              refine el_val (v := (Value.pointer (some ⟨b514, 1, none⟩))) (wanted_y rfl rfl rfl hb1248) rfl rfl (run_fieldAddr tf26_1 (o := 0) rfl) ?_
                              refine el_val (v := (Value.slice A6 n7 c8)) (wanted_y rfl rfl rfl hb1248) rfl rfl (run_load1 (ad := ⟨b514, 1, none⟩) ta22 rfl (wd_cell 1 hw rfl rfl)) ?_
                              refine el_val (v := (Value.int .i64 (i1044 : Int))) (wanted_y rfl rfl rfl hb1248) rfl rfl (run_pev (v := (Value.int .i64 (i1044 : Int))) rfl) ?_
                              obtain ⟨x1249, hx1250, h⟩ := bind_some h
                              obtain ⟨b1251, of1252, es1253, hA1254, hc1255, he1256⟩ := sl_el hs9 hx1250
                              obtain rfl : es1253 = _ := he1256
                              refine el_val (v := (Value.pointer (some (eAdr A6 (((i1044 : Int)).toNat * 1))))) (wanted_y rfl rfl rfl hb1248) rfl rfl (run_idx te22 ts3 rfl hs9.len rfl hx1250 hA1254) ?_
                              refine el_val (v := (Value.int .i64 x1249)) (wanted_y rfl rfl rfl hb1248) rfl rfl (run_load1 (ad := (eAdr A6 (((i1044 : Int)).toNat * 1))) ta3 rfl (hw.fz (hc1255 0 _ rfl))) ?_
                              refine el_val (v := (Value.bool (decide (x1249 ≥ 0)))) (wanted_y rfl rfl rfl hb1248) rfl rfl (run_pev (v := (Value.bool (decide (x1249 ≥ 0)))) rfl) ?_
                              refine el_val (v := (Value.bool (decide (x1249 ≥ 0)))) (wanted_y rfl rfl rfl hb1248) rfl rfl (run_pev (v := (Value.bool (decide (x1249 ≥ 0)))) rfl) ?_
                              rcases Bool.eq_false_or_eq_true (decide (x1249 ≥ 0)) with hb1257 | hb1257
                              · replace h := ifb_t hb1257 h
                                refine el_val (v := (Value.int .i64 x1045)) (wanted_y rfl rfl rfl hb1257) rfl rfl (run_pev (v := (Value.int .i64 x1045)) rfl) ?_
                                refine el_val (v := (Value.pointer (some ⟨b514, 1, none⟩))) (wanted_y rfl rfl rfl hb1257) rfl rfl (run_fieldAddr tf26_1 (o := 0) rfl) ?_
                                refine el_val (v := (Value.slice A6 n7 c8)) (wanted_y rfl rfl rfl hb1257) rfl rfl (run_load1 (ad := ⟨b514, 1, none⟩) ta22 rfl (wd_cell 1 hw rfl rfl)) ?_
                                refine el_val (v := (Value.int .i64 (i1044 : Int))) (wanted_y rfl rfl rfl hb1257) rfl rfl (run_pev (v := (Value.int .i64 (i1044 : Int))) rfl) ?_
                                obtain ⟨b1258, of1259, es1260, hA1261, hc1262, he1263⟩ := sl_el hs9 hx1250
                                obtain rfl : es1260 = _ := he1263
                                refine el_val (v := (Value.pointer (some (eAdr A6 (((i1044 : Int)).toNat * 1))))) (wanted_y rfl rfl rfl hb1257) rfl rfl (run_idx te22 ts3 rfl hs9.len rfl hx1250 hA1261) ?_
                                refine el_val (v := (Value.int .i64 x1249)) (wanted_y rfl rfl rfl hb1257) rfl rfl (run_load1 (ad := (eAdr A6 (((i1044 : Int)).toNat * 1))) ta3 rfl (hw.fz (hc1262 0 _ rfl))) ?_
                                refine el_val (v := (Value.bool (decide (x1045 > x1249)))) (wanted_y rfl rfl rfl hb1257) rfl rfl (run_pev (v := (Value.bool (decide (x1045 > x1249)))) rfl) ?_
                                refine el_val (v := (Value.bool (decide (x1045 > x1249)))) (wanted_y rfl rfl rfl hb1248) rfl rfl (run_pick_t rfl hb1257 rfl) ?_
                                refine el_val (v := (Value.bool (decide (x1045 > x1249)))) (wanted_n rfl) rfl rfl (run_pick_f rfl hb1248 rfl) ?_
                                refine el_nil ?_
                                obtain rfl := Option.some.inj h
                                exact ⟨f1099, (HP.le_refl _), ⟨rfl, rfl, rfl, rfl, rfl, rfl, rfl, rfl, rfl, trivial⟩, hw⟩
                              · replace h := ifb_f hb1257 h
                                refine el_pass (wanted_f rfl rfl rfl hb1257) rfl rfl ?_
                                refine el_pass (wanted_f rfl rfl rfl hb1257) rfl rfl ?_
                                refine el_pass (wanted_f rfl rfl rfl hb1257) rfl rfl ?_
                                refine el_pass (wanted_f rfl rfl rfl hb1257) rfl rfl ?_
                                refine el_pass (wanted_f rfl rfl rfl hb1257) rfl rfl ?_
                                refine el_pass (wanted_f rfl rfl rfl hb1257) rfl rfl ?_
                                refine el_pass (wanted_f rfl rfl rfl hb1257) rfl rfl ?_
                                refine el_val (v := (Value.bool false)) (wanted_y rfl rfl rfl hb1248) rfl rfl (run_pick_f rfl hb1257 rfl) ?_
                                refine el_val (v := (Value.bool false)) (wanted_n rfl) rfl rfl (run_pick_f rfl hb1248 rfl) ?_
                                refine el_nil ?_
                                obtain rfl := Option.some.inj h
                                exact ⟨f1099, (HP.le_refl _), ⟨rfl, rfl, rfl, rfl, rfl, rfl, rfl, rfl, rfl, trivial⟩, hw⟩
                        · rintro ρ1264 w1265 ⟨f1237, hle1238, hl1239, hw⟩
                          first | refine ewp_live hl1239 fun ρ1266 => ?_ | rw [← hl1239.eq]
                          replace hs5 := hs5.mono hle1238
                          replace hs9 := hs9.mono hle1238
                          replace hs13 := hs13.mono hle1238
                          replace hs17 := hs17.mono hle1238
                          replace hs21 := hs21.mono hle1238
                          replace hs26 := hs26.mono hle1238
                          replace hs31 := hs31.mono hle1238
                          replace hs571 := hs571.mono hle1238
                          replace hk666 := hk666.mono hle1238
                          replace hc1054 := fun j v hv => hcell_le hle1238 (hc1054 j v hv)
                          replace hc1062 := fun j v hv => hcell_le hle1238 (hc1062 j v hv)
                          refine ewp_cond s1236 rfl (fun hb1267 => ?_) (fun hb1267 => ?_)
                          · replace h := ifb_t hb1267 h
                            refine ewp_seq ?_
                            refine ewp_region ?_
                            refine el_val (v := (Value.bool false)) (wanted_n rfl) rfl rfl (run_pev (v := (Value.bool false)) rfl) ?_
                            refine el_nil ?_
                            refine ewp_ret ?_
                            replace hw := hw.drop_0
                            replace hw := hw.drop_0
                            obtain rfl := Option.some.inj h
                            refine ⟨_, rfl, fun hf => ⟨_, hf, fun hr => ?_⟩⟩
                            subst hr
                            exact ⟨_, res1 rfl, f1237, (HP.le_trans (HP.le_trans (HP.le_trans (HP.le_trans (HP.le_trans (HP.le_trans (HP.le_trans (HP.le_trans (HP.le_trans hle520 hle526) hle546) hle567) hle592) hle660) hle833) hle924) hle1100) hle1238), rfl, hw⟩
                          · replace h := ifb_f hb1267 h
                            refine ewp_skip ?_
                            refine ewp_region ?_
                            refine el_val (v := (Value.int .i64 (w64 ((i1044 : Int) + 1)))) (wanted_n rfl) rfl rfl (run_pev (v := (Value.int .i64 (w64 ((i1044 : Int) + 1)))) rfl) ?_
                            refine el_val (v := (Value.int .i64 (w64 ((i1044 : Int) + 1)))) (wanted_n rfl) rfl rfl (run_pev (v := (Value.int .i64 (w64 ((i1044 : Int) + 1)))) rfl) ?_
                            refine el_nil ?_
                            obtain rfl := Option.some.inj h
                            exact ⟨_, rfl, f1237, (HP.le_trans (HP.le_trans hle924 hle1100) hle1238), ⟨rfl, rfl, rfl, rfl, rfl, rfl, rfl, (congrArg (Value.int .i64) (succ_w64 hs571.room hx)), trivial⟩, hw⟩
                      · exact fun _ _ h => h.elim
                      · exact fun _ _ _ h => h.elim
                    · rintro s922 ρ1268 w1269 hfin1270 ⟨f923, hle924, hl925, hw⟩
                      first | refine ewp_live hl925 fun ρ1271 => ?_ | rw [← hl925.eq]
                      replace hs5 := hs5.mono hle924
                      replace hs9 := hs9.mono hle924
                      replace hs13 := hs13.mono hle924
                      replace hs17 := hs17.mono hle924
                      replace hs21 := hs21.mono hle924
                      replace hs26 := hs26.mono hle924
                      replace hs31 := hs31.mono hle924
                      replace hs571 := hs571.mono hle924
                      replace hk666 := hk666.mono hle924
                      refine ewp_seq ?_
                      refine ewp_region ?_
                      refine el_val (v := (Value.bool (decide ((x564.1.length : Int) < (x564.1.length : Int))))) (wanted_n rfl) rfl rfl (run_pev (v := (Value.bool (decide ((x564.1.length : Int) < (x564.1.length : Int))))) rfl) ?_
                      refine el_nil ?_
                      refine ewp_seq ?_
                      refine ewp_cond_f rfl (nlt_self _) ?_
                      refine ewp_exit ?_
                      exact ⟨s922, hfin1270, f923, hle924, ⟨rfl, rfl, rfl, rfl, trivial⟩, hw⟩
                  · rintro ρ1272 w1273 ⟨s922, rfl, f923, hle924, hl925, hw⟩
                    replace h := on_go h
                    first | refine ewp_live hl925 fun ρ1274 => ?_ | rw [← hl925.eq]
                    replace hs5 := hs5.mono hle924
                    replace hs9 := hs9.mono hle924
                    replace hs13 := hs13.mono hle924
                    replace hs17 := hs17.mono hle924
                    replace hs21 := hs21.mono hle924
                    replace hs26 := hs26.mono hle924
                    replace hs31 := hs31.mono hle924
                    replace hs571 := hs571.mono hle924
                    replace hk666 := hk666.mono hle924
                    refine ewp_seq ?_
                    refine ewp_region ?_
                    refine el_val (v := (Value.slice A23 n24 c25)) (wanted_n rfl) rfl rfl (run_pev (v := (Value.slice A23 n24 c25)) rfl) ?_
                    obtain ⟨x1275, hx1276, h⟩ := bind_some h
                    refine el_call (wanted_n rfl) rfl rfl (run_call (vals := (List.toArray [(Value.slice A23 n24 c25)])) rfl cl12 rfl) (slices_Clone_int_int.calls hw hs26 hx1276) ?_
                    rintro _ w1285 ⟨f1277, A1279, n1280, c1281, cur1282, hle1278, rfl, hk1283, hw⟩
                    replace hs5 := hs5.mono hle1278
                    replace hs9 := hs9.mono hle1278
                    replace hs13 := hs13.mono hle1278
                    replace hs17 := hs17.mono hle1278
                    replace hs21 := hs21.mono hle1278
                    replace hs26 := hs26.mono hle1278
                    replace hs31 := hs31.mono hle1278
                    replace hs571 := hs571.mono hle1278
                    replace hk666 := hk666.mono hle1278
                    refine el_val (v := (Value.slice A1279 n1280 c1281)) (wanted_n rfl) rfl rfl (run_pev (v := (Value.slice A1279 n1280 c1281)) rfl) ?_
                    refine el_nil ?_
                    refine ewp_seq ?_
                    refine ewp_seq ?_
                    refine ewp_region ?_
                    refine el_val (v := (Value.slice A28 n29 c30)) (wanted_n rfl) rfl rfl (run_pev (v := (Value.slice A28 n29 c30)) rfl) ?_
                    refine el_val (v := (Value.int .i64 (p27.length : Int))) (wanted_n rfl) rfl rfl (run_lenS te22 rfl hs31.len) ?_
                    refine el_val (v := (Value.int .i64 0)) (wanted_n rfl) rfl rfl (run_pev (v := (Value.int .i64 0)) rfl) ?_
                    refine el_nil ?_
                    obtain ⟨c1377, hc1378, h⟩ := bind_some h
                    refine ewp_M (fun ρ' w' => ∃ s1329, c1377 = .go s1329 ∧ ∃ (f1330 : HP) (A1333 : Option Addr) (n1334 : Nat) (c1335 : Nat) (cur1336 : Array Value), HP.le f1277 f1330 ∧ ArrOk f1330 (fInt .i64) A1333 n1334 c1335 cur1336 s1329 ∧ Live ρ' [(3, (Value.pointer (some ⟨b514, 0, none⟩))), (7, (Value.slice A568 n569 c570)), (19, (Value.slice A1333 n1334 c1335))] ∧ Wd G w' f1330 (Arr A1333 c1335 cur1336 :: Arr A662 c664 cur665 :: Blk b514 (.cells (List.toArray [(Value.slice A2 n3 c4), (Value.slice A6 n7 c8), (Value.slice A10 n11 c12), (Value.slice A14 n15 c16), (Value.slice A18 n19 c20)]) 26 (0, 0)) :: L)) noE noX ?_ ?_ ?_ ?_
                    · refine ewp_block ?_
                      refine ewp_forC (fun (i1379 : Nat) (s1329 : List Int) ρ' w' => ∃ (f1330 : HP) (A1333 : Option Addr) (n1334 : Nat) (c1335 : Nat) (cur1336 : Array Value), HP.le f1277 f1330 ∧ ArrOk f1330 (fInt .i64) A1333 n1334 c1335 cur1336 s1329 ∧ Live ρ' [(3, (Value.pointer (some ⟨b514, 0, none⟩))), (7, (Value.slice A568 n569 c570)), (19, (Value.slice A1333 n1334 c1335)), (176, (Value.slice A28 n29 c30)), (177, (Value.int .i64 (p27.length : Int))), (178, (Value.int .i64 (i1379 : Int)))] ∧ Wd G w' f1330 (Arr A1333 c1335 cur1336 :: Arr A662 c664 cur665 :: Blk b514 (.cells (List.toArray [(Value.slice A2 n3 c4), (Value.slice A6 n7 c8), (Value.slice A10 n11 c12), (Value.slice A14 n15 c16), (Value.slice A18 n19 c20)]) 26 (0, 0)) :: L)) hc1378 ⟨f1277, A1279, n1280, c1281, cur1282, (HP.le_refl _), hk1283, ⟨rfl, rfl, rfl, rfl, rfl, rfl, trivial⟩, hw⟩ ?_ ?_
                      · rintro i1379 x1380 s1329 ct1383 ρ1381 w1382 hx h ⟨f1330, A1333, n1334, c1335, cur1336, hle1331, hk1337, hl1332, hw⟩
                        unfold fishkeep2_MendLeast_b12 at h
                        first | refine ewp_live hl1332 fun ρ1384 => ?_ | rw [← hl1332.eq]
                        replace hs5 := hs5.mono hle1331
                        replace hs9 := hs9.mono hle1331
                        replace hs13 := hs13.mono hle1331
                        replace hs17 := hs17.mono hle1331
                        replace hs21 := hs21.mono hle1331
                        replace hs26 := hs26.mono hle1331
                        replace hs31 := hs31.mono hle1331
                        replace hs571 := hs571.mono hle1331
                        replace hk666 := hk666.mono hle1331
                        refine ewp_seq ?_
                        refine ewp_region ?_
                        refine el_val (v := (Value.bool (decide ((i1379 : Int) < (p27.length : Int))))) (wanted_n rfl) rfl rfl (run_pev (v := (Value.bool (decide ((i1379 : Int) < (p27.length : Int))))) rfl) ?_
                        refine el_nil ?_
                        refine ewp_seq ?_
                        refine ewp_cond_t rfl (lt_len hx) ?_
                        refine ewp_skip ?_
                        refine ewp_seq ?_
                        obtain ⟨s1413, hc1422, h⟩ := bind_some h
                        refine ewp_N (fun ρ' w' => ∃ (f1414 : HP) (A1417 : Option Addr) (n1418 : Nat) (c1419 : Nat) (cur1420 : Array Value), HP.le f1330 f1414 ∧ ArrOk f1414 (fInt .i64) A1417 n1418 c1419 cur1420 s1413 ∧ Live ρ' [(3, (Value.pointer (some ⟨b514, 0, none⟩))), (7, (Value.slice A568 n569 c570)), (19, (Value.slice A1417 n1418 c1419)), (176, (Value.slice A28 n29 c30)), (177, (Value.int .i64 (p27.length : Int))), (178, (Value.int .i64 (i1379 : Int)))] ∧ Wd G w' f1414 (Arr A1417 c1419 cur1420 :: Arr A662 c664 cur665 :: Blk b514 (.cells (List.toArray [(Value.slice A2 n3 c4), (Value.slice A6 n7 c8), (Value.slice A10 n11 c12), (Value.slice A14 n15 c16), (Value.slice A18 n19 c20)]) 26 (0, 0)) :: L)) ?_ ?_
                        · replace h := hc1422
                          refine ewp_block ?_
                          refine ewp_seq ?_
                          refine ewp_region ?_
                          refine el_val (v := (Value.int .i64 (i1379 : Int))) (wanted_n rfl) rfl rfl (run_pev (v := (Value.int .i64 (i1379 : Int))) rfl) ?_
                          obtain ⟨b1423, of1424, es1425, hA1426, hc1427, he1428⟩ := sl_el hs31 (idx_nat hx)
                          obtain rfl : es1425 = _ := he1428
                          refine el_val (v := (Value.pointer (some (eAdr A28 (((i1379 : Int)).toNat * 1))))) (wanted_n rfl) rfl rfl (run_idx te22 ts3 rfl hs31.len rfl (idx_nat hx) hA1426) ?_
                          refine el_val (v := (Value.int .i64 x1380)) (wanted_n rfl) rfl rfl (run_load1 (ad := (eAdr A28 (((i1379 : Int)).toNat * 1))) ta3 rfl (hw.fz (hc1427 0 _ rfl))) ?_
                          refine el_val (v := (Value.int .i64 (i1379 : Int))) (wanted_n rfl) rfl rfl (run_pev (v := (Value.int .i64 (i1379 : Int))) rfl) ?_
                          refine el_val (v := (Value.int .i64 x1380)) (wanted_n rfl) rfl rfl (run_pev (v := (Value.int .i64 x1380)) rfl) ?_
                          refine el_nil ?_
                          refine ewp_seq ?_
                          refine ewp_region ?_
                          refine el_val (v := (Value.slice A1333 n1334 c1335)) (wanted_n rfl) rfl rfl (run_pev (v := (Value.slice A1333 n1334 c1335)) rfl) ?_
                          refine el_val (v := (Value.int .i64 (i1379 : Int))) (wanted_n rfl) rfl rfl (run_pev (v := (Value.int .i64 (i1379 : Int))) rfl) ?_
                          obtain ⟨x1429, hx1430, h⟩ := bind_some h
                          obtain ⟨b1431, of1432, es1433, hA1434, hc1435, he1436⟩ := arr_el hk1337 hx1430
                          obtain rfl : es1433 = _ := he1436
                          refine el_val (v := (Value.pointer (some (eAdr A1333 (((i1379 : Int)).toNat * 1))))) (wanted_n rfl) rfl rfl (run_idx te22 ts3 rfl hk1337.len rfl hx1430 hA1434) ?_
                          refine el_val (v := (Value.int .i64 x1429)) (wanted_n rfl) rfl rfl (run_load1 (ad := (eAdr A1333 (((i1379 : Int)).toNat * 1))) ta3 rfl (wd_arr 0 hw rfl hA1434 (hc1435 0 _ rfl))) ?_
                          refine el_val (v := (Value.bool (x1429 == 0))) (wanted_n rfl) rfl rfl (run_pev (v := (Value.bool (x1429 == 0))) rfl) ?_
                          refine el_nil ?_
                          refine ewp_cond (x1429 == 0) rfl (fun hb1437 => ?_) (fun hb1437 => ?_)
                          · replace h := ifb_t hb1437 h
                            refine ewp_region ?_
                            refine el_val (v := (Value.slice A1333 n1334 c1335)) (wanted_n rfl) rfl rfl (run_pev (v := (Value.slice A1333 n1334 c1335)) rfl) ?_
                            refine el_val (v := (Value.int .i64 (i1379 : Int))) (wanted_n rfl) rfl rfl (run_pev (v := (Value.int .i64 (i1379 : Int))) rfl) ?_
                            refine el_val (v := (Value.int .i64 x1380)) (wanted_n rfl) rfl rfl (run_pev (v := (Value.int .i64 x1380)) rfl) ?_
                            obtain ⟨b1438, of1439, es1440, hA1441, hc1442, he1443⟩ := arr_el hk1337 hx1430
                            obtain rfl : es1440 = _ := he1443
                            refine el_val (v := (Value.pointer (some (eAdr A1333 (((i1379 : Int)).toNat * 1))))) (wanted_n rfl) rfl rfl (run_idx te22 ts3 rfl hk1337.len rfl hx1430 hA1441) ?_
                            refine el_exu (wanted_n rfl) rfl (run_arrSet (E := fInt .i64) (y := x1380) hw hk1337 hx1430 rfl rfl ts3 rfl rfl) ?_
                            rintro w1446 ⟨cur1444, hk1445, hw⟩
                            refine el_nil ?_
                            obtain rfl := Option.some.inj h
                            exact ⟨f1330, A1333, n1334, c1335, cur1444, (HP.le_refl _), hk1445, ⟨rfl, rfl, rfl, rfl, rfl, rfl, trivial⟩, hw⟩
                          · replace h := ifb_f hb1437 h
                            refine ewp_skip ?_
                            obtain rfl := Option.some.inj h
                            exact ⟨f1330, A1333, n1334, c1335, cur1336, (HP.le_refl _), hk1337, ⟨rfl, rfl, rfl, rfl, rfl, rfl, trivial⟩, hw⟩
                        · rintro ρ1447 w1448 ⟨f1414, A1417, n1418, c1419, cur1420, hle1415, hk1421, hl1416, hw⟩
                          first | refine ewp_live hl1416 fun ρ1449 => ?_ | rw [← hl1416.eq]
                          replace hs5 := hs5.mono hle1415
                          replace hs9 := hs9.mono hle1415
                          replace hs13 := hs13.mono hle1415
                          replace hs17 := hs17.mono hle1415
                          replace hs21 := hs21.mono hle1415
                          replace hs26 := hs26.mono hle1415
                          replace hs31 := hs31.mono hle1415
                          replace hs571 := hs571.mono hle1415
                          replace hk666 := hk666.mono hle1415
                          refine ewp_region ?_
                          refine el_val (v := (Value.int .i64 (w64 ((i1379 : Int) + 1)))) (wanted_n rfl) rfl rfl (run_pev (v := (Value.int .i64 (w64 ((i1379 : Int) + 1)))) rfl) ?_
                          refine el_val (v := (Value.int .i64 (w64 ((i1379 : Int) + 1)))) (wanted_n rfl) rfl rfl (run_pev (v := (Value.int .i64 (w64 ((i1379 : Int) + 1)))) rfl) ?_
                          refine el_nil ?_
                          obtain rfl := Option.some.inj h
                          exact ⟨_, rfl, f1414, A1417, n1418, c1419, cur1420, (HP.le_trans hle1331 hle1415), hk1421, ⟨rfl, rfl, rfl, rfl, rfl, (congrArg (Value.int .i64) (succ_w64 hs31.room hx)), trivial⟩, hw⟩
                      · rintro s1329 ρ1450 w1451 hfin1452 ⟨f1330, A1333, n1334, c1335, cur1336, hle1331, hk1337, hl1332, hw⟩
                        first | refine ewp_live hl1332 fun ρ1453 => ?_ | rw [← hl1332.eq]
                        replace hs5 := hs5.mono hle1331
                        replace hs9 := hs9.mono hle1331
                        replace hs13 := hs13.mono hle1331
                        replace hs17 := hs17.mono hle1331
                        replace hs21 := hs21.mono hle1331
                        replace hs26 := hs26.mono hle1331
                        replace hs31 := hs31.mono hle1331
                        replace hs571 := hs571.mono hle1331
                        replace hk666 := hk666.mono hle1331
                        refine ewp_seq ?_
                        refine ewp_region ?_
                        refine el_val (v := (Value.bool (decide ((p27.length : Int) < (p27.length : Int))))) (wanted_n rfl) rfl rfl (run_pev (v := (Value.bool (decide ((p27.length : Int) < (p27.length : Int))))) rfl) ?_
                        refine el_nil ?_
                        refine ewp_seq ?_
                        refine ewp_cond_f rfl (nlt_self _) ?_
                        refine ewp_exit ?_
                        exact ⟨s1329, hfin1452, f1330, A1333, n1334, c1335, cur1336, hle1331, hk1337, ⟨rfl, rfl, rfl, trivial⟩, hw⟩
                    · rintro ρ1454 w1455 ⟨s1329, rfl, f1330, A1333, n1334, c1335, cur1336, hle1331, hk1337, hl1332, hw⟩
                      replace h := on_go h
                      first | refine ewp_live hl1332 fun ρ1456 => ?_ | rw [← hl1332.eq]
                      replace hs5 := hs5.mono hle1331
                      replace hs9 := hs9.mono hle1331
                      replace hs13 := hs13.mono hle1331
                      replace hs17 := hs17.mono hle1331
                      replace hs21 := hs21.mono hle1331
                      replace hs26 := hs26.mono hle1331
                      replace hs31 := hs31.mono hle1331
                      replace hs571 := hs571.mono hle1331
                      replace hk666 := hk666.mono hle1331
                      refine ewp_seq ?_
                      refine ewp_region ?_
                      refine el_val (v := (Value.agg #[(Value.slice A2 n3 c4), (Value.slice A6 n7 c8), (Value.slice A10 n11 c12), (Value.slice A14 n15 c16), (Value.slice A18 n19 c20)])) (wanted_n rfl) rfl rfl (run_loadN (ad := ⟨b514, 0, none⟩) (cs := [(Value.slice A2 n3 c4), (Value.slice A6 n7 c8), (Value.slice A10 n11 c12), (Value.slice A14 n15 c16), (Value.slice A18 n19 c20)]) ta26 ts26 rfl rfl (wd_cells 2 hw rfl rfl)) ?_
                      refine el_val (v := (Value.slice A1333 n1334 c1335)) (wanted_n rfl) rfl rfl (run_pev (v := (Value.slice A1333 n1334 c1335)) rfl) ?_
                      obtain ⟨x1457, hx1458, h⟩ := bind_some h
                      refine el_call (wanted_n rfl) rfl rfl (run_call (vals := (List.toArray [(Value.agg #[(Value.slice A2 n3 c4), (Value.slice A6 n7 c8), (Value.slice A10 n11 c12), (Value.slice A14 n15 c16), (Value.slice A18 n19 c20)]), (Value.slice A1333 n1334 c1335)])) rfl cl10 rfl) (mend_Times.calls hw hs5 hs9 hs13 hs17 hs21 hk1337 hx1458) ?_
                      rintro _ w1465 ⟨f1459, A1461, n1462, c1463, hle1460, rfl, hs1464, hw⟩
                      replace hs5 := hs5.mono hle1460
                      replace hs9 := hs9.mono hle1460
                      replace hs13 := hs13.mono hle1460
                      replace hs17 := hs17.mono hle1460
                      replace hs21 := hs21.mono hle1460
                      replace hs26 := hs26.mono hle1460
                      replace hs31 := hs31.mono hle1460
                      replace hs571 := hs571.mono hle1460
                      replace hk666 := hk666.mono hle1460
                      replace hk1337 := hk1337.mono hle1460
                      refine el_val (v := (Value.tuple #[(Value.slice A1461 n1462 c1463), (Value.int .i64 x1457.2)])) (wanted_n rfl) rfl rfl (run_pev (v := (Value.tuple #[(Value.slice A1461 n1462 c1463), (Value.int .i64 x1457.2)])) rfl) ?_
                      refine el_val (v := (Value.slice A1461 n1462 c1463)) (wanted_n rfl) rfl rfl (run_pev (v := (Value.slice A1461 n1462 c1463)) rfl) ?_
                      refine el_val (v := (Value.int .i64 x1457.2)) (wanted_n rfl) rfl rfl (run_pev (v := (Value.int .i64 x1457.2)) rfl) ?_
                      refine el_val (v := (Value.slice A1461 n1462 c1463)) (wanted_n rfl) rfl rfl (run_pev (v := (Value.slice A1461 n1462 c1463)) rfl) ?_
                      refine el_val (v := (Value.int .i64 x1457.2)) (wanted_n rfl) rfl rfl (run_pev (v := (Value.int .i64 x1457.2)) rfl) ?_
                      refine el_nil ?_
                      refine ewp_seq ?_
                      refine ewp_seq ?_
                      refine ewp_region ?_
                      refine el_val (v := (Value.int .i64 x1457.2)) (wanted_n rfl) rfl rfl (run_pev (v := (Value.int .i64 x1457.2)) rfl) ?_
                      refine el_val (v := (Value.bool (x1457.2 != 0))) (wanted_n rfl) rfl rfl (run_pev (v := (Value.bool (x1457.2 != 0))) rfl) ?_
                      refine el_nil ?_
                      refine ewp_cond (x1457.2 != 0) rfl (fun hb1466 => ?_) (fun hb1466 => ?_)
                      · replace h := ifb_t hb1466 h
                        refine ewp_seq ?_
                        refine ewp_region ?_
                        refine el_val (v := (Value.int .i64 x1457.2)) (wanted_n rfl) rfl rfl (run_pev (v := (Value.int .i64 x1457.2)) rfl) ?_
                        refine el_val (v := (Value.bool (x1457.2 == 5))) (wanted_n rfl) rfl rfl (run_pev (v := (Value.bool (x1457.2 == 5))) rfl) ?_
                        refine el_val (v := (Value.bool (x1457.2 == 5))) (wanted_n rfl) rfl rfl (run_pev (v := (Value.bool (x1457.2 == 5))) rfl) ?_
                        refine el_nil ?_
                        refine ewp_ret ?_
                        replace hw := hw.drop_0
                        replace hw := hw.drop_0
                        replace hw := hw.drop_0
                        obtain rfl := Option.some.inj h
                        exact ⟨_, res1 rfl, f1459, (HP.le_trans (HP.le_trans (HP.le_trans (HP.le_trans (HP.le_trans (HP.le_trans (HP.le_trans (HP.le_trans (HP.le_trans (HP.le_trans hle520 hle526) hle546) hle567) hle592) hle660) hle833) hle924) hle1278) hle1331) hle1460), rfl, hw⟩
                      · replace h := ifb_f hb1466 h
                        refine ewp_skip ?_
                        refine ewp_seq ?_
                        refine ewp_seq ?_
                        refine ewp_region ?_
                        refine el_val (v := (Value.slice A568 n569 c570)) (wanted_n rfl) rfl rfl (run_pev (v := (Value.slice A568 n569 c570)) rfl) ?_
                        refine el_val (v := (Value.int .i64 (x564.1.length : Int))) (wanted_n rfl) rfl rfl (run_lenS te22 rfl hs571.len) ?_
                        refine el_val (v := (Value.int .i64 0)) (wanted_n rfl) rfl rfl (run_pev (v := (Value.int .i64 0)) rfl) ?_
                        refine el_nil ?_
                        obtain ⟨c1497, hc1498, h⟩ := bind_some h
                        refine ewp_M (fun ρ' w' => ∃ s1467, c1497 = .go s1467 ∧ ∃ (f1468 : HP), HP.le f1459 f1468 ∧ Live ρ' [] ∧ Wd G w' f1468 (Arr A1333 c1335 cur1336 :: Arr A662 c664 cur665 :: Blk b514 (.cells (List.toArray [(Value.slice A2 n3 c4), (Value.slice A6 n7 c8), (Value.slice A10 n11 c12), (Value.slice A14 n15 c16), (Value.slice A18 n19 c20)]) 26 (0, 0)) :: L)) (fun ρ' w' => ∃ x_, c1497 = .out x_ ∧ (x_ = r → RetPost Try.prog Try.f3 (fishkeep2_MendLeast.R G f L A2 n3 c4 A6 n7 c8 A10 n11 c12 A14 n15 c16 A18 n19 c20 A23 n24 c25 A28 n29 c30 p1 p22 p27 r) .ret ρ' w')) noX ?_ ?_ ?_ ?_
                        · refine ewp_block ?_
                          refine ewp_forC (fun (i1499 : Nat) (s1467 : Unit) ρ' w' => ∃ (f1468 : HP), HP.le f1459 f1468 ∧ Live ρ' [(7, (Value.slice A568 n569 c570)), (22, (Value.slice A1461 n1462 c1463)), (204, (Value.int .i64 (x564.1.length : Int))), (205, (Value.int .i64 (i1499 : Int)))] ∧ Wd G w' f1468 (Arr A1333 c1335 cur1336 :: Arr A662 c664 cur665 :: Blk b514 (.cells (List.toArray [(Value.slice A2 n3 c4), (Value.slice A6 n7 c8), (Value.slice A10 n11 c12), (Value.slice A14 n15 c16), (Value.slice A18 n19 c20)]) 26 (0, 0)) :: L)) hc1498 ⟨f1459, (HP.le_refl _), ⟨rfl, rfl, rfl, rfl, trivial⟩, hw⟩ ?_ ?_
                          · rintro i1499 x1500 s1467 ct1503 ρ1501 w1502 hx h ⟨f1468, hle1469, hl1470, hw⟩
                            unfold fishkeep2_MendLeast_b13 at h
                            first | refine ewp_live hl1470 fun ρ1504 => ?_ | rw [← hl1470.eq]
                            replace hs5 := hs5.mono hle1469
                            replace hs9 := hs9.mono hle1469
                            replace hs13 := hs13.mono hle1469
                            replace hs17 := hs17.mono hle1469
                            replace hs21 := hs21.mono hle1469
                            replace hs26 := hs26.mono hle1469
                            replace hs31 := hs31.mono hle1469
                            replace hs571 := hs571.mono hle1469
                            replace hk666 := hk666.mono hle1469
                            replace hk1337 := hk1337.mono hle1469
                            replace hs1464 := hs1464.mono hle1469
                            refine ewp_seq ?_
                            refine ewp_region ?_
                            refine el_val (v := (Value.bool (decide ((i1499 : Int) < (x564.1.length : Int))))) (wanted_n rfl) rfl rfl (run_pev (v := (Value.bool (decide ((i1499 : Int) < (x564.1.length : Int))))) rfl) ?_
                            refine el_nil ?_
                            refine ewp_seq ?_
                            refine ewp_cond_t rfl (lt_len hx) ?_
                            refine ewp_skip ?_
                            refine ewp_seq ?_
                            refine ewp_block ?_
                            refine ewp_seq ?_
                            refine ewp_region ?_
                            refine el_val (v := (Value.int .i64 (i1499 : Int))) (wanted_n rfl) rfl rfl (run_pev (v := (Value.int .i64 (i1499 : Int))) rfl) ?_
                            refine el_val (v := (Value.int .i64 (i1499 : Int))) (wanted_n rfl) rfl rfl (run_pev (v := (Value.int .i64 (i1499 : Int))) rfl) ?_
                            refine el_nil ?_
                            refine ewp_seq ?_
                            obtain ⟨s1524, hc1528, h⟩ := bind_some h
                            refine ewp_N (fun ρ' w' => ∃ (f1525 : HP), HP.le f1468 f1525 ∧ Live ρ' [(7, (Value.slice A568 n569 c570)), (22, (Value.slice A1461 n1462 c1463)), (204, (Value.int .i64 (x564.1.length : Int))), (205, (Value.int .i64 (i1499 : Int))), (223, (Value.bool s1524))] ∧ Wd G w' f1525 (Arr A1333 c1335 cur1336 :: Arr A662 c664 cur665 :: Blk b514 (.cells (List.toArray [(Value.slice A2 n3 c4), (Value.slice A6 n7 c8), (Value.slice A10 n11 c12), (Value.slice A14 n15 c16), (Value.slice A18 n19 c20)]) 26 (0, 0)) :: L)) ?_ ?_
                            · replace h := hc1528
                              refine ewp_draw (SW G f1468 (Arr A1333 c1335 cur1336 :: Arr A662 c664 cur665 :: Blk b514 (.cells (List.toArray [(Value.slice A2 n3 c4), (Value.slice A6 n7 c8), (Value.slice A10 n11 c12), (Value.slice A14 n15 c16), (Value.slice A18 n19 c20)]) 26 (0, 0)) :: L)) [] 16 mixed ?_
                              replace hw := hw.drew
                              have hS := SW.of hw
                              refine et_pure (i := 0) (v := (Value.slice A1461 n1462 c1463)) rfl (by kernel_rfl) (fun _ _ _ h => h) rfl rfl (.inl ⟨(wanted_n rfl), fun _ => run_pev (v := (Value.slice A1461 n1462 c1463)) rfl⟩) ?_
                              refine et_pure (i := 1) (v := (Value.int .i64 (x1457.1.length : Int))) rfl (by kernel_rfl) (fun _ _ _ h => h) rfl rfl (.inl ⟨(wanted_n rfl), fun _ => run_lenS te22 rfl hs1464.len⟩) ?_
                              refine et_pure (i := 2) (v := (Value.slice A568 n569 c570)) rfl (by kernel_rfl) (fun _ _ _ h => h) rfl rfl (.inl ⟨(wanted_n rfl), fun _ => run_pev (v := (Value.slice A568 n569 c570)) rfl⟩) ?_
                              refine et_pure (i := 3) (v := (Value.int .i64 (x564.1.length : Int))) rfl (by kernel_rfl) (fun _ _ _ h => h) rfl rfl (.inl ⟨(wanted_n rfl), fun _ => run_lenS te22 rfl hs571.len⟩) ?_
                              refine et_pure (i := 4) (v := (Value.bool ((x1457.1.length : Int) != (x564.1.length : Int)))) rfl (by kernel_rfl) (fun _ _ _ h => h) rfl rfl (.inl ⟨(wanted_n rfl), fun _ => run_pev (v := (Value.bool ((x1457.1.length : Int) != (x564.1.length : Int)))) rfl⟩) ?_
                              refine et_pure (i := 5) (v := (Value.bool ((x1457.1.length : Int) != (x564.1.length : Int)))) rfl (by kernel_rfl) (fun _ _ _ h => h) rfl rfl (.inl ⟨(wanted_n rfl), fun _ => run_pev (v := (Value.bool ((x1457.1.length : Int) != (x564.1.length : Int)))) rfl⟩) ?_
                              rcases Bool.eq_false_or_eq_true ((x1457.1.length : Int) != (x564.1.length : Int)) with hb1544 | hb1544
                              · replace h := ifb_t hb1544 h
                                refine et_pure (i := 6) rfl (by kernel_rfl) (fun _ _ _ h => h) rfl rfl (.inr ⟨(wanted_f rfl rfl rfl hb1544), rfl⟩) ?_
                                refine et_pure (i := 7) rfl (by kernel_rfl) (fun _ _ _ h => h) rfl rfl (.inr ⟨(wanted_f rfl rfl rfl hb1544), rfl⟩) ?_
                                refine et_pure (i := 8) rfl (by kernel_rfl) (fun _ _ _ h => h) rfl rfl (.inr ⟨(wanted_f rfl rfl rfl hb1544), rfl⟩) ?_
                                refine et_pure (i := 9) rfl (by kernel_rfl) (fun _ _ _ h => h) rfl rfl (.inr ⟨(wanted_f rfl rfl rfl hb1544), rfl⟩) ?_
                                refine et_pure (i := 10) rfl (by kernel_rfl) (fun _ _ _ h => h) rfl rfl (.inr ⟨(wanted_f rfl rfl rfl hb1544), rfl⟩) ?_
                                refine et_pure (i := 11) rfl (by kernel_rfl) (fun _ _ _ h => h) rfl rfl (.inr ⟨(wanted_f rfl rfl rfl hb1544), rfl⟩) ?_
                                refine et_pure (i := 12) rfl (by kernel_rfl) (fun _ _ _ h => h) rfl rfl (.inr ⟨(wanted_f rfl rfl rfl hb1544), rfl⟩) ?_
                                refine et_pure (i := 13) rfl (by kernel_rfl) (fun _ _ _ h => h) rfl rfl (.inr ⟨(wanted_f rfl rfl rfl hb1544), rfl⟩) ?_
                                refine et_pure (i := 14) rfl (by kernel_rfl) (fun _ _ _ h => h) rfl rfl (.inr ⟨(wanted_f rfl rfl rfl hb1544), rfl⟩) ?_
                                refine et_pure (i := 15) (v := (Value.bool true)) rfl (by kernel_rfl) (fun _ _ _ h => h) rfl rfl (.inl ⟨(wanted_n rfl), fun _ => run_pick_t rfl hb1544 rfl⟩) ?_
                                refine et_tail rfl ?_
                                refine ey_done rfl ?_
                                obtain rfl := Option.some.inj h
                                exact ⟨f1468, (HP.le_refl _), ⟨rfl, rfl, rfl, rfl, rfl, trivial⟩, hw⟩
                              · replace h := ifb_f hb1544 h
                                refine et_pure (i := 6) (v := (Value.slice A1461 n1462 c1463)) rfl (by kernel_rfl) (fun _ _ _ h => h) rfl rfl (.inl ⟨(wanted_y rfl rfl rfl hb1544), fun _ => run_pev (v := (Value.slice A1461 n1462 c1463)) rfl⟩) ?_
                                refine et_pure (i := 7) (v := (Value.int .i64 (i1499 : Int))) rfl (by kernel_rfl) (fun _ _ _ h => h) rfl rfl (.inl ⟨(wanted_y rfl rfl rfl hb1544), fun _ => run_pev (v := (Value.int .i64 (i1499 : Int))) rfl⟩) ?_
                                obtain ⟨x1545, hx1546, h⟩ := bind_some h
                                obtain ⟨b1547, of1548, es1549, hA1550, hc1551, he1552⟩ := sl_el hs1464 hx1546
                                obtain rfl : es1549 = _ := he1552
                                refine et_pure (i := 8) (v := (Value.pointer (some (eAdr A1461 (((i1499 : Int)).toNat * 1))))) rfl (by kernel_rfl) (fun _ _ _ h => h) rfl rfl (.inl ⟨(wanted_y rfl rfl rfl hb1544), fun _ => run_idx te22 ts3 rfl hs1464.len rfl hx1546 hA1550⟩) ?_
                                refine et_first (i := 9) (v := (Value.int .i64 x1545)) rfl (by kernel_rfl) (fun _ _ _ h => h) rfl rfl (.inl ⟨(wanted_y rfl rfl rfl hb1544), fun w9 ⟨f9, hl9, h9⟩ => run_load1 (ad := (eAdr A1461 (((i1499 : Int)).toNat * 1))) ta3 rfl (h9.fz (hcell_le hl9 (hc1551 0 _ rfl)))⟩) hS ?_
                                refine et_pure (i := 10) (v := (Value.slice A568 n569 c570)) rfl (by kernel_rfl) (fun _ _ _ h => h) rfl rfl (.inl ⟨(wanted_y rfl rfl rfl hb1544), fun _ => run_pev (v := (Value.slice A568 n569 c570)) rfl⟩) ?_
                                refine et_pure (i := 11) (v := (Value.int .i64 (i1499 : Int))) rfl (by kernel_rfl) (fun _ _ _ h => h) rfl rfl (.inl ⟨(wanted_y rfl rfl rfl hb1544), fun _ => run_pev (v := (Value.int .i64 (i1499 : Int))) rfl⟩) ?_
                                obtain ⟨b1553, of1554, es1555, hA1556, hc1557, he1558⟩ := sl_el hs571 (idx_nat hx)
                                obtain rfl : es1555 = _ := he1558
                                refine et_pure (i := 12) (v := (Value.pointer (some (eAdr A568 (((i1499 : Int)).toNat * 1))))) rfl (by kernel_rfl) (fun _ _ _ h => h) rfl rfl (.inl ⟨(wanted_y rfl rfl rfl hb1544), fun _ => run_idx te22 ts3 rfl hs571.len rfl (idx_nat hx) hA1556⟩) ?_
                                refine et_first (i := 13) (v := (Value.int .i64 x1500)) rfl (by kernel_rfl) (fun _ _ _ h => h) rfl rfl (.inl ⟨(wanted_y rfl rfl rfl hb1544), fun w9 ⟨f9, hl9, h9⟩ => run_load1 (ad := (eAdr A568 (((i1499 : Int)).toNat * 1))) ta3 rfl (h9.fz (hcell_le hl9 (hc1557 0 _ rfl)))⟩) hS ?_
                                refine et_pure (i := 14) (v := (Value.bool (decide (x1545 < x1500)))) rfl (by kernel_rfl) (fun _ _ _ h => h) rfl rfl (.inl ⟨(wanted_y rfl rfl rfl hb1544), fun _ => run_pev (v := (Value.bool (decide (x1545 < x1500)))) rfl⟩) ?_
                                refine et_pure (i := 15) (v := (Value.bool (decide (x1545 < x1500)))) rfl (by kernel_rfl) (fun _ _ _ h => h) rfl rfl (.inl ⟨(wanted_n rfl), fun _ => run_pick_f rfl hb1544 rfl⟩) ?_
                                refine et_tail rfl ?_
                                refine ey_done rfl ?_
                                obtain rfl := Option.some.inj h
                                exact ⟨f1468, (HP.le_refl _), ⟨rfl, rfl, rfl, rfl, rfl, trivial⟩, hw⟩
                            · rintro ρ1559 w1560 ⟨f1525, hle1526, hl1527, hw⟩
                              first | refine ewp_live hl1527 fun ρ1561 => ?_ | rw [← hl1527.eq]
                              replace hs5 := hs5.mono hle1526
                              replace hs9 := hs9.mono hle1526
                              replace hs13 := hs13.mono hle1526
                              replace hs17 := hs17.mono hle1526
                              replace hs21 := hs21.mono hle1526
                              replace hs26 := hs26.mono hle1526
                              replace hs31 := hs31.mono hle1526
                              replace hs571 := hs571.mono hle1526
                              replace hk666 := hk666.mono hle1526
                              replace hk1337 := hk1337.mono hle1526
                              replace hs1464 := hs1464.mono hle1526
                              refine ewp_cond s1524 rfl (fun hb1562 => ?_) (fun hb1562 => ?_)
                              · replace h := ifb_t hb1562 h
                                refine ewp_seq ?_
                                refine ewp_region ?_
                                refine el_val (v := (Value.bool false)) (wanted_n rfl) rfl rfl (run_pev (v := (Value.bool false)) rfl) ?_
                                refine el_nil ?_
                                refine ewp_ret ?_
                                replace hw := hw.drop_0
                                replace hw := hw.drop_0
                                replace hw := hw.drop_0
                                obtain rfl := Option.some.inj h
                                refine ⟨_, rfl, fun hf => ⟨_, hf, fun hr => ?_⟩⟩
                                subst hr
                                exact ⟨_, res1 rfl, f1525, (HP.le_trans (HP.le_trans (HP.le_trans (HP.le_trans (HP.le_trans (HP.le_trans (HP.le_trans (HP.le_trans (HP.le_trans (HP.le_trans (HP.le_trans (HP.le_trans hle520 hle526) hle546) hle567) hle592) hle660) hle833) hle924) hle1278) hle1331) hle1460) hle1469) hle1526), rfl, hw⟩
                              · replace h := ifb_f hb1562 h
                                refine ewp_skip ?_
                                refine ewp_region ?_
                                refine el_val (v := (Value.int .i64 (w64 ((i1499 : Int) + 1)))) (wanted_n rfl) rfl rfl (run_pev (v := (Value.int .i64 (w64 ((i1499 : Int) + 1)))) rfl) ?_
                                refine el_val (v := (Value.int .i64 (w64 ((i1499 : Int) + 1)))) (wanted_n rfl) rfl rfl (run_pev (v := (Value.int .i64 (w64 ((i1499 : Int) + 1)))) rfl) ?_
                                refine el_nil ?_
                                obtain rfl := Option.some.inj h
                                exact ⟨_, rfl, f1525, (HP.le_trans hle1469 hle1526), ⟨rfl, rfl, rfl, (congrArg (Value.int .i64) (succ_w64 hs571.room hx)), trivial⟩, hw⟩
                          · rintro s1467 ρ1563 w1564 hfin1565 ⟨f1468, hle1469, hl1470, hw⟩
                            first | refine ewp_live hl1470 fun ρ1566 => ?_ | rw [← hl1470.eq]
                            replace hs5 := hs5.mono hle1469
                            replace hs9 := hs9.mono hle1469
                            replace hs13 := hs13.mono hle1469
                            replace hs17 := hs17.mono hle1469
                            replace hs21 := hs21.mono hle1469
                            replace hs26 := hs26.mono hle1469
                            replace hs31 := hs31.mono hle1469
                            replace hs571 := hs571.mono hle1469
                            replace hk666 := hk666.mono hle1469
                            replace hk1337 := hk1337.mono hle1469
                            replace hs1464 := hs1464.mono hle1469
                            refine ewp_seq ?_
                            refine ewp_region ?_
                            refine el_val (v := (Value.bool (decide ((x564.1.length : Int) < (x564.1.length : Int))))) (wanted_n rfl) rfl rfl (run_pev (v := (Value.bool (decide ((x564.1.length : Int) < (x564.1.length : Int))))) rfl) ?_
                            refine el_nil ?_
                            refine ewp_seq ?_
                            refine ewp_cond_f rfl (nlt_self _) ?_
                            refine ewp_exit ?_
                            exact ⟨s1467, hfin1565, f1468, hle1469, trivial, hw⟩
                        · rintro ρ1567 w1568 ⟨s1467, rfl, f1468, hle1469, hl1470, hw⟩
                          replace h := on_go h
                          first | refine ewp_live hl1470 fun ρ1569 => ?_ | rw [← hl1470.eq]
                          replace hs5 := hs5.mono hle1469
                          replace hs9 := hs9.mono hle1469
                          replace hs13 := hs13.mono hle1469
                          replace hs17 := hs17.mono hle1469
                          replace hs21 := hs21.mono hle1469
                          replace hs26 := hs26.mono hle1469
                          replace hs31 := hs31.mono hle1469
                          replace hs571 := hs571.mono hle1469
                          replace hk666 := hk666.mono hle1469
                          replace hk1337 := hk1337.mono hle1469
                          replace hs1464 := hs1464.mono hle1469
                          refine ewp_seq ?_
                          refine ewp_region ?_
                          refine el_val (v := (Value.bool true)) (wanted_n rfl) rfl rfl (run_pev (v := (Value.bool true)) rfl) ?_
                          refine el_nil ?_
                          refine ewp_ret ?_
                          replace hw := hw.drop_0
                          replace hw := hw.drop_0
                          replace hw := hw.drop_0
                          obtain rfl := Option.some.inj h
                          exact ⟨_, res1 rfl, f1468, (HP.le_trans (HP.le_trans (HP.le_trans (HP.le_trans (HP.le_trans (HP.le_trans (HP.le_trans (HP.le_trans (HP.le_trans (HP.le_trans (HP.le_trans hle520 hle526) hle546) hle567) hle592) hle660) hle833) hle924) hle1278) hle1331) hle1460) hle1469), rfl, hw⟩
                        · rintro ρ1570 w1571 ⟨x1572, rfl, hq1573⟩
                          replace h := on_out h
                          obtain rfl := Option.some.inj h
                          exact hq1573 rfl
                        · exact fun _ _ _ h => h.elim
                    · exact fun _ _ h => h.elim
                    · exact fun _ _ _ h => h.elim
                  · rintro ρ1574 w1575 ⟨x1576, rfl, hq1577⟩
                    replace h := on_out h
                    obtain rfl := Option.some.inj h
                    exact hq1577 rfl
                  · exact fun _ _ _ h => h.elim
                · rintro ρ1578 w1579 ⟨x1580, rfl, hq1581⟩
                  replace h := on_out h
                  obtain rfl := Option.some.inj h
                  exact hq1581 rfl
                · exact fun _ _ _ h => h.elim
              · exact fun _ _ h => h.elim
              · exact fun _ _ _ h => h.elim
end Hk
