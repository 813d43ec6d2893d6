/- Functions of the program as plain functions, with proofs that each call returns what its plain function gives. Printed by a tool. -/
import Derived.Test.YtcidamhhffgipaaMLa
set_option linter.unusedVariables false
set_option linter.unusedSimpArgs false
set_option maxRecDepth 20000
set_option maxHeartbeats 2000000
namespace Hk
open Go Go.Proofs
def mend_solver_with_b11 (s744 : List Int × List Int × List (List S_mend_Arc)) (s956 : List (List S_mend_Arc)) (i1931 : Nat) (x1932 : S_mend_Arc) (s1877 : List Bool × List Int × List Int × List Int × Bool) : Option (Ctl (List Bool × List Int × List Int × List Int × Bool) (Ctl (List Bool × List Int × List Int × List Int × Bool) (Empty))) :=
  ((mend_solver_with_1_v2 x1932 s1877.2.2.1 s744.2.1 s956 s1877.2.2.2.1 s1877.2.2.2.2 s1877.1 s1877.2.1).bind fun (x1947 : List Int × List Int × Bool × List Bool × List Int) => (some (.go (x1947.2.2.2.1, x1947.2.2.2.2, x1947.1, x1947.2.1, x1947.2.2.1))))
def mend_solver_with_b10 (s744 : List Int × List Int × List (List S_mend_Arc)) (s956 : List (List S_mend_Arc)) (x1434 : Int) (s1584 : List Int × List Int × List Bool × List Int × Bool) : Option (Ctl (List Int × List Int × List Bool × List Int × Bool) (Ctl (List Int × List Int × List Bool × List Int × Bool) (Option S_mend_solver × Bool))) :=
  ((ifb (decide ((s1584.2.2.2.1.length : Int) > 0)) (some s1584.2.2.2.2) (some false)).bind fun (s1790 : Bool) => (ifb s1790 ((idx s1584.2.2.2.1 0).bind fun (x1800 : Int) => ((gcut s1584.2.2.2.1 1 (s1584.2.2.2.1.length : Int)).bind fun (x1808 : List Int) => ((idx s1584.2.2.1 x1800).bind fun (x1813 : Bool) => ((idx s1584.1 x1800).bind fun (x1824 : Int) => (ifb (decide (x1824 > x1434)) (some (.out (.out ((none : Option S_mend_solver), false)))) ((idx s956 x1800).bind fun (x1833 : List S_mend_Arc) => ((forC (mend_solver_with_b11 s744 s956) x1833 ((setI s1584.2.2.1 x1800 false), x1808, s1584.1, s1584.2.1, s1584.2.2.2.2)).bind fun c1929 => Ctl.on c1929 (fun s1877 => (some (.go (s1877.2.2.1, s1877.2.2.2.1, s1877.1, s1877.2.1, s1877.2.2.2.2)))) (fun x_ => x_.elim)))))))) (some (.out (.go (s1584.1, s1584.2.1, s1584.2.2.1, s1584.2.2.2.1, s1584.2.2.2.2))))))
def mend_solver_with_b7 (s744 : List Int × List Int × List (List S_mend_Arc)) (s956 : List (List S_mend_Arc)) (i1392 : Nat) (x1393 : S_mend_Arc) (s1337 : List Int × List Bool × List Int × Bool × List Int) : Option (Ctl (List Int × List Bool × List Int × Bool × List Int) (Ctl (List Int × List Bool × List Int × Bool × List Int) (Empty))) :=
  ((mend_solver_with_1_v2 x1393 s1337.2.2.1 s744.2.1 s956 s1337.1 s1337.2.2.2.1 s1337.2.1 s1337.2.2.2.2).bind fun (x1411 : List Int × List Int × Bool × List Bool × List Int) => (some (.go (x1411.2.1, x1411.2.2.2.1, x1411.1, x1411.2.2.1, x1411.2.2.2.2))))
def mend_solver_with_b6  (i1042 : Nat) (x1043 : S_mend_Arc) (s956 : List (List S_mend_Arc)) : Option (Ctl (List (List S_mend_Arc)) (Ctl (List (List S_mend_Arc)) (Empty))) :=
  (((idx s956 x1043.From).bind fun (x1132 : List S_mend_Arc) => ((slices_Clone_mend_Arc_mend_Arc_v2 x1132).bind fun (x1144 : List S_mend_Arc) => ((gapp 24 x1144 [x1043]).bind fun (x1158 : List S_mend_Arc) => (some (setI s956 x1043.From x1158))))).bind fun (s1112 : List (List S_mend_Arc)) => (some (.go s1112)))
def mend_solver_with (p3 : List Int) (p10 : List Int) (p15 : List (List S_mend_Arc)) (p22 : List S_mend_Arc) : Option (Option S_mend_solver × Bool) :=
  (((slices_Clone_int_int p3).bind fun (x769 : List Int) => ((slices_Clone_mend_Arc_mend_Arc p15).bind fun (x780 : List (List S_mend_Arc)) => (some (x769, p10, x780)))).bind fun (s744 : List Int × List Int × List (List S_mend_Arc)) => ((forC mend_solver_with_b6 p22 s744.2.2).bind fun c1040 => Ctl.on c1040 (fun s956 => ((gmake 1 (s744.1.length : Int) false).bind fun (x1271 : List Bool) => ((gmake 8 (s744.1.length : Int) (0 : Int)).bind fun (x1284 : List Int) => ((forC (mend_solver_with_b7 s744 s956) p22 (x1284, x1271, s744.1, true, ([] : List Int))).bind fun c1390 => Ctl.on c1390 (fun s1337 => ((mend_solver_bound s1337.2.2.1 s744.2.1 s956).bind fun (x1434 : Int) => ((iter (mend_solver_with_b10 s744 s956 x1434) (s1337.2.2.1, s1337.1, s1337.2.1, s1337.2.2.2.2, s1337.2.2.2.1)).bind fun c1777 => Ctl.on c1777 (fun s1753 => (some ((some (S_mend_solver.mk s1753.1 s744.2.1 s956)), s1753.2.2.2.2))) (fun x1984 => (some x1984))))) (fun x_ => x_.elim))))) (fun x_ => x_.elim)))
def mend_solver_with.R (G : World) (f : HP) (L : List HProp) (b1 : Nat) (A4 : Option Addr) (n5 : Nat) (c6 : Nat) (cur7 : Array Value) (A11 : Option Addr) (n12 : Nat) (c13 : Nat) (A16 : Option Addr) (n17 : Nat) (c18 : Nat) (cur19 : Array Value) (A23 : Option Addr) (n24 : Nat) (c25 : Nat) (p3 : List Int) (p10 : List Int) (p15 : List (List S_mend_Arc)) (p22 : List S_mend_Arc) (r : Option S_mend_solver × Bool) : Value → World → Prop := fun v' w' =>
  ∃ (f' : HP) (v709 : Value), HP.le f f' ∧ v' = (Value.tuple #[v709, (Value.bool r.2)]) ∧ (fOpt fS_mend_solver).p f' [v709] r.1 ∧ Wd G w' f' (Blk b1 (.cells (List.toArray [(Value.slice A4 n5 c6), (Value.slice A11 n12 c13), (Value.slice A16 n17 c18)]) 73 (0, 0)) :: Arr A4 c6 cur7 :: Arr A16 c18 cur19 :: L)
theorem mend_solver_with.calls {G w : World} {f : HP} {L : List HProp} {b1 : Nat} {A4 : Option Addr} {n5 : Nat} {c6 : Nat} {cur7 : Array Value} {A11 : Option Addr} {n12 : Nat} {c13 : Nat} {A16 : Option Addr} {n17 : Nat} {c18 : Nat} {cur19 : Array Value} {A23 : Option Addr} {n24 : Nat} {c25 : Nat} {p3 : List Int} {p10 : List Int} {p15 : List (List S_mend_Arc)} {p22 : List S_mend_Arc} (hw : Wd G w f (Blk b1 (.cells (List.toArray [(Value.slice A4 n5 c6), (Value.slice A11 n12 c13), (Value.slice A16 n17 c18)]) 73 (0, 0)) :: Arr A4 c6 cur7 :: Arr A16 c18 cur19 :: L)) (hk8 : ArrOk f (fInt .i64) A4 n5 c6 cur7 p3) (hs14 : SlF f (fInt .i64) A11 n12 c13 p10) (hk20 : ArrOk f (fSl fS_mend_Arc) A16 n17 c18 cur19 p15) (hs26 : SlF f fS_mend_Arc A23 n24 c25 p22) {r : Option S_mend_solver × Bool} (h : mend_solver_with p3 p10 p15 p22 = some r) :
    Calls Try.prog 41 #[(Value.pointer (some ⟨b1, 0, none⟩)), (Value.slice A23 n24 c25)] w (Returns (mend_solver_with.R G f L b1 A4 n5 c6 cur7 A11 n12 c13 A16 n17 c18 cur19 A23 n24 c25 p3 p10 p15 p22 r)) := by
  unfold mend_solver_with at h
  refine ecalls 128 Try.func41 rfl rfl ?_
  refine ewp_seq ?_
  refine ewp_region ?_
  refine el_val (v := (Value.pointer none)) (wanted_n rfl) rfl rfl (run_pev (v := (Value.pointer none)) rfl) ?_
  refine el_val (v := (Value.bool false)) (wanted_n rfl) rfl rfl (run_pev (v := (Value.bool false)) rfl) ?_
  refine el_nil ?_
  refine ewp_seq ?_
  obtain ⟨s744, hc768, h⟩ := bind_some h
  refine ewp_N (fun ρ' w' => ∃ (f745 : HP) (b748 : Nat) (b750 : Nat) (A752 : Option Addr) (n753 : Nat) (c754 : Nat) (cur755 : Array Value) (A758 : Option Addr) (n759 : Nat) (c760 : Nat) (A762 : Option Addr) (n763 : Nat) (c764 : Nat) (cur765 : Array Value), HP.le f f745 ∧ ArrOk f745 (fInt .i64) A752 n753 c754 cur755 s744.1 ∧ SlF f745 (fInt .i64) A758 n759 c760 s744.2.1 ∧ ArrOk f745 (fSl fS_mend_Arc) A762 n763 c764 cur765 s744.2.2 ∧ Live ρ' [(1, (Value.slice A23 n24 c25)), (6, (Value.pointer (some ⟨b748, 0, none⟩)))] ∧ Wd G w' f745 (Arr A4 c6 cur7 :: Arr A16 c18 cur19 :: Blk b1 (.cells (List.toArray [(Value.slice A4 n5 c6), (Value.slice A11 n12 c13), (Value.slice A16 n17 c18)]) 73 (0, 0)) :: Blk b748 (.cells (List.toArray [(Value.pointer (some ⟨b750, 0, none⟩))]) 69 (0, 0)) :: Blk b750 (.cells (List.toArray [(Value.slice A752 n753 c754), (Value.slice A758 n759 c760), (Value.slice A762 n763 c764)]) 73 (0, 0)) :: Arr A752 c754 cur755 :: Arr A762 c764 cur765 :: L)) ?_ ?_
  · replace h := hc768
    obtain ⟨x769, hx770, h⟩ := bind_some h
    obtain ⟨x780, hx781, h⟩ := bind_some h
    refine ewp_draw (SW G f (Blk b1 (.cells (List.toArray [(Value.slice A4 n5 c6), (Value.slice A11 n12 c13), (Value.slice A16 n17 c18)]) 73 (0, 0)) :: Arr A4 c6 cur7 :: Arr A16 c18 cur19 :: L)) [] 17 mixed ?_
    replace hw := hw.drew
    have hS := SW.of hw
    refine et_pure (i := 0) (v := (Value.pointer (some ⟨b1, 0, none⟩))) rfl (by kernel_rfl) (fun _ _ _ h => h) rfl rfl (.inl ⟨(wanted_n rfl), fun _ => run_pev (v := (Value.pointer (some ⟨b1, 0, none⟩))) rfl⟩) ?_
    refine et_pure (i := 1) (v := (Value.pointer (some ⟨b1, 0, none⟩))) rfl (by kernel_rfl) (fun _ _ _ h => h) rfl rfl (.inl ⟨(wanted_n rfl), fun _ => run_pev (v := (Value.pointer (some ⟨b1, 0, none⟩))) rfl⟩) ?_
    refine et_pure (i := 2) (v := (Value.pointer (some ⟨b1, 0, none⟩))) rfl (by kernel_rfl) (fun _ _ _ h => h) rfl rfl (.inl ⟨(wanted_n rfl), fun _ => run_fieldAddr tf73_0 (o := 0) rfl⟩) ?_
    refine et_first (i := 3) (v := (Value.slice A4 n5 c6)) rfl (by kernel_rfl) (fun _ _ _ h => h) rfl rfl (.inl ⟨(wanted_n rfl), fun w9 ⟨f9, hl9, h9⟩ => run_load1 (ad := ⟨b1, 0, none⟩) ta22 rfl (wd_cell 0 h9 rfl rfl)⟩) hS ?_
    refine et_pure (i := 5) (v := (Value.pointer (some ⟨b1, 0, none⟩))) rfl (by kernel_rfl) (fun _ _ _ h => h) rfl rfl (.inl ⟨(wanted_n rfl), fun _ => run_pev (v := (Value.pointer (some ⟨b1, 0, none⟩))) rfl⟩) ?_
    refine et_pure (i := 6) (v := (Value.pointer (some ⟨b1, 0, none⟩))) rfl (by kernel_rfl) (fun _ _ _ h => h) rfl rfl (.inl ⟨(wanted_n rfl), fun _ => run_pev (v := (Value.pointer (some ⟨b1, 0, none⟩))) rfl⟩) ?_
    refine et_pure (i := 7) (v := (Value.pointer (some ⟨b1, 1, none⟩))) rfl (by kernel_rfl) (fun _ _ _ h => h) rfl rfl (.inl ⟨(wanted_n rfl), fun _ => run_fieldAddr tf73_1 (o := 0) rfl⟩) ?_
    refine et_first (i := 8) (v := (Value.slice A11 n12 c13)) rfl (by kernel_rfl) (fun _ _ _ h => h) rfl rfl (.inl ⟨(wanted_n rfl), fun w9 ⟨f9, hl9, h9⟩ => run_load1 (ad := ⟨b1, 1, none⟩) ta22 rfl (wd_cell 0 h9 rfl rfl)⟩) hS ?_
    refine et_pure (i := 9) (v := (Value.pointer (some ⟨b1, 0, none⟩))) rfl (by kernel_rfl) (fun _ _ _ h => h) rfl rfl (.inl ⟨(wanted_n rfl), fun _ => run_pev (v := (Value.pointer (some ⟨b1, 0, none⟩))) rfl⟩) ?_
    refine et_pure (i := 10) (v := (Value.pointer (some ⟨b1, 0, none⟩))) rfl (by kernel_rfl) (fun _ _ _ h => h) rfl rfl (.inl ⟨(wanted_n rfl), fun _ => run_pev (v := (Value.pointer (some ⟨b1, 0, none⟩))) rfl⟩) ?_
    refine et_pure (i := 11) (v := (Value.pointer (some ⟨b1, 2, none⟩))) rfl (by kernel_rfl) (fun _ _ _ h => h) rfl rfl (.inl ⟨(wanted_n rfl), fun _ => run_fieldAddr tf73_2 (o := 0) rfl⟩) ?_
    refine et_first (i := 12) (v := (Value.slice A16 n17 c18)) rfl (by kernel_rfl) (fun _ _ _ h => h) rfl rfl (.inl ⟨(wanted_n rfl), fun w9 ⟨f9, hl9, h9⟩ => run_load1 (ad := ⟨b1, 2, none⟩) ta35 rfl (wd_cell 0 h9 rfl rfl)⟩) hS ?_
    refine et_all [4, 16] (by kernel_rfl) ?_
    intro j798 hj
    simp only [List.mem_cons, List.not_mem_nil, or_false] at hj
    rcases hj with rfl | rfl
    · replace hw := hw.front1
      refine eo_call rfl (wanted_n rfl) rfl rfl (run_call (vals := (List.toArray [(Value.slice A4 n5 c6)])) rfl cl12 rfl) (slices_Clone_int_int_v2.calls hw hk8 hx770) ?_
      rintro _ w807 ⟨f799, A801, n802, c803, cur804, hle800, rfl, hk805, hw⟩
      replace hk8 := hk8.mono hle800
      replace hs14 := hs14.mono hle800
      replace hk20 := hk20.mono hle800
      replace hs26 := hs26.mono hle800
      refine and_keep (SW.mk hle800 hw.drop_0.front2.front1.front2) fun hS => ?_
      refine et_all [13, 16] (by kernel_rfl) ?_
      intro j808 hj
      simp only [List.mem_cons, List.not_mem_nil, or_false] at hj
      rcases hj with rfl | rfl
      · replace hw := hw.front3
        refine eo_call rfl (wanted_n rfl) rfl rfl (run_call (vals := (List.toArray [(Value.slice A16 n17 c18)])) rfl cl60 rfl) (slices_Clone_mend_Arc_mend_Arc.calls hw hk20 hx781) ?_
        rintro _ w817 ⟨f809, A811, n812, c813, cur814, hle810, rfl, hk815, hw⟩
        replace hk8 := hk8.mono hle810
        replace hs14 := hs14.mono hle810
        replace hk20 := hk20.mono hle810
        replace hs26 := hs26.mono hle810
        replace hk805 := hk805.mono hle810
        refine and_keep (SW.mk (HP.le_trans hle800 hle810) hw.drop_0.drop_1.front1.front2) fun hS => ?_
        refine et_pure (i := 14) (v := (Value.agg #[(Value.slice A801 n802 c803), (Value.slice A11 n12 c13), (Value.slice A811 n812 c813)])) rfl (by kernel_rfl) (fun _ _ _ h => h) rfl rfl (.inl ⟨(wanted_n rfl), fun _ => run_buildS (parts := [(0, .tmp 24), (1, .tmp 28), (2, .tmp 33)]) (cs := [(Value.slice A801 n802 c803), (Value.slice A11 n12 c13), (Value.slice A811 n812 c813)]) tz73 tp73 rfl⟩) ?_
        refine et_all [15, 16] (by kernel_rfl) ?_
        intro j818 hj
        simp only [List.mem_cons, List.not_mem_nil, or_false] at hj
        rcases hj with rfl | rfl
        · refine eo_exv rfl (wanted_n rfl) rfl rfl (run_boxE (cs := [(Value.slice A801 n802 c803), (Value.slice A11 n12 c13), (Value.slice A811 n812 c813)]) rfl rfl hw) ?_
          rintro w821 _ ⟨b819, rfl, hw⟩
          refine and_keep (SW.mk (HP.le_trans hle800 hle810) hw.drop_0.drop_0.drop_1.front1.front2) fun hS => ?_
          refine et_one 16 (by kernel_rfl) ?_
          refine eo_exv rfl (wanted_n rfl) rfl rfl (run_allocE (cs := [(Value.pointer none)]) tz69 rfl hw) ?_
          rintro w824 _ ⟨b822, rfl, hw⟩
          refine and_keep (SW.mk (HP.le_trans hle800 hle810) hw.drop_0.drop_0.drop_0.drop_1.front1.front2) fun hS => ?_
          refine et_tail rfl ?_
          refine ey_one (i := 17) (by kernel_rfl) ?_
          refine eo_exu rfl (wanted_n rfl) rfl (run_blkSetE (new := List.toArray [(Value.pointer (some ⟨b819, 0, none⟩))]) hw rfl rfl ts69 rfl rfl rfl) ?_
          rintro w825 hw
          refine ey_done rfl ?_
          replace hw := hw.front4
          replace hw := hw.front2
          replace hw := hw.front2
          replace hw := hw.front6
          replace hw := hw.front5
          replace hw := hw.front6
          obtain rfl := Option.some.inj h
          exact ⟨f809, b822, b819, A801, n802, c803, cur804, A11, n12, c13, A811, n812, c813, cur814, (HP.le_trans hle800 hle810), hk805, hs14, hk815, ⟨rfl, rfl, trivial⟩, hw⟩
        · refine eo_exv rfl (wanted_n rfl) rfl rfl (run_allocE (cs := [(Value.pointer none)]) tz69 rfl hw) ?_
          rintro w828 _ ⟨b826, rfl, hw⟩
          refine and_keep (SW.mk (HP.le_trans hle800 hle810) hw.drop_0.drop_0.drop_1.front1.front2) fun hS => ?_
          refine et_one 15 (by kernel_rfl) ?_
          refine eo_exv rfl (wanted_n rfl) rfl rfl (run_boxE (cs := [(Value.slice A801 n802 c803), (Value.slice A11 n12 c13), (Value.slice A811 n812 c813)]) rfl rfl hw) ?_
          rintro w831 _ ⟨b829, rfl, hw⟩
          refine and_keep (SW.mk (HP.le_trans hle800 hle810) hw.drop_0.drop_0.drop_0.drop_1.front1.front2) fun hS => ?_
          refine et_tail rfl ?_
          refine ey_one (i := 17) (by kernel_rfl) ?_
          replace hw := hw.front1
          refine eo_exu rfl (wanted_n rfl) rfl (run_blkSetE (new := List.toArray [(Value.pointer (some ⟨b829, 0, none⟩))]) hw rfl rfl ts69 rfl rfl rfl) ?_
          rintro w832 hw
          refine ey_done rfl ?_
          replace hw := hw.front4
          replace hw := hw.front2
          replace hw := hw.front2
          replace hw := hw.front6
          replace hw := hw.front5
          replace hw := hw.front6
          obtain rfl := Option.some.inj h
          exact ⟨f809, b826, b829, A801, n802, c803, cur804, A11, n12, c13, A811, n812, c813, cur814, (HP.le_trans hle800 hle810), hk805, hs14, hk815, ⟨rfl, rfl, trivial⟩, hw⟩
      · refine eo_exv rfl (wanted_n rfl) rfl rfl (run_allocE (cs := [(Value.pointer none)]) tz69 rfl hw) ?_
        rintro w835 _ ⟨b833, rfl, hw⟩
        refine and_keep (SW.mk hle800 hw.drop_0.drop_0.front2.front1.front2) fun hS => ?_
        refine et_one 13 (by kernel_rfl) ?_
        replace hw := hw.front4
        refine eo_call rfl (wanted_n rfl) rfl rfl (run_call (vals := (List.toArray [(Value.slice A16 n17 c18)])) rfl cl60 rfl) (slices_Clone_mend_Arc_mend_Arc.calls hw hk20 hx781) ?_
        rintro _ w844 ⟨f836, A838, n839, c840, cur841, hle837, rfl, hk842, hw⟩
        replace hk8 := hk8.mono hle837
        replace hs14 := hs14.mono hle837
        replace hk20 := hk20.mono hle837
        replace hs26 := hs26.mono hle837
        replace hk805 := hk805.mono hle837
        refine and_keep (SW.mk (HP.le_trans hle800 hle837) hw.drop_0.drop_1.drop_1.front1.front2) fun hS => ?_
        refine et_pure (i := 14) (v := (Value.agg #[(Value.slice A801 n802 c803), (Value.slice A11 n12 c13), (Value.slice A838 n839 c840)])) rfl (by kernel_rfl) (fun _ _ _ h => h) rfl rfl (.inl ⟨(wanted_n rfl), fun _ => run_buildS (parts := [(0, .tmp 24), (1, .tmp 28), (2, .tmp 33)]) (cs := [(Value.slice A801 n802 c803), (Value.slice A11 n12 c13), (Value.slice A838 n839 c840)]) tz73 tp73 rfl⟩) ?_
        refine et_one 15 (by kernel_rfl) ?_
        refine eo_exv rfl (wanted_n rfl) rfl rfl (run_boxE (cs := [(Value.slice A801 n802 c803), (Value.slice A11 n12 c13), (Value.slice A838 n839 c840)]) rfl rfl hw) ?_
        rintro w847 _ ⟨b845, rfl, hw⟩
        refine and_keep (SW.mk (HP.le_trans hle800 hle837) hw.drop_0.drop_0.drop_1.drop_1.front1.front2) fun hS => ?_
        refine et_tail rfl ?_
        refine ey_one (i := 17) (by kernel_rfl) ?_
        replace hw := hw.front3
        refine eo_exu rfl (wanted_n rfl) rfl (run_blkSetE (new := List.toArray [(Value.pointer (some ⟨b845, 0, none⟩))]) hw rfl rfl ts69 rfl rfl rfl) ?_
        rintro w848 hw
        refine ey_done rfl ?_
        replace hw := hw.front4
        replace hw := hw.front2
        replace hw := hw.front2
        replace hw := hw.front6
        replace hw := hw.front5
        replace hw := hw.front6
        obtain rfl := Option.some.inj h
        exact ⟨f836, b833, b845, A801, n802, c803, cur804, A11, n12, c13, A838, n839, c840, cur841, (HP.le_trans hle800 hle837), hk805, hs14, hk842, ⟨rfl, rfl, trivial⟩, hw⟩
    · refine eo_exv rfl (wanted_n rfl) rfl rfl (run_allocE (cs := [(Value.pointer none)]) tz69 rfl hw) ?_
      rintro w851 _ ⟨b849, rfl, hw⟩
      refine and_keep (SW.mk (HP.le_refl _) hw.drop_0.front2.front2.front2) fun hS => ?_
      refine et_one 4 (by kernel_rfl) ?_
      replace hw := hw.front2
      refine eo_call rfl (wanted_n rfl) rfl rfl (run_call (vals := (List.toArray [(Value.slice A4 n5 c6)])) rfl cl12 rfl) (slices_Clone_int_int_v2.calls hw hk8 hx770) ?_
      rintro _ w860 ⟨f852, A854, n855, c856, cur857, hle853, rfl, hk858, hw⟩
      replace hk8 := hk8.mono hle853
      replace hs14 := hs14.mono hle853
      replace hk20 := hk20.mono hle853
      replace hs26 := hs26.mono hle853
      refine and_keep (SW.mk hle853 hw.drop_0.drop_1.front2.front1.front2) fun hS => ?_
      refine et_one 13 (by kernel_rfl) ?_
      replace hw := hw.front4
      refine eo_call rfl (wanted_n rfl) rfl rfl (run_call (vals := (List.toArray [(Value.slice A16 n17 c18)])) rfl cl60 rfl) (slices_Clone_mend_Arc_mend_Arc.calls hw hk20 hx781) ?_
      rintro _ w869 ⟨f861, A863, n864, c865, cur866, hle862, rfl, hk867, hw⟩
      replace hk8 := hk8.mono hle862
      replace hs14 := hs14.mono hle862
      replace hk20 := hk20.mono hle862
      replace hs26 := hs26.mono hle862
      replace hk858 := hk858.mono hle862
      refine and_keep (SW.mk (HP.le_trans hle853 hle862) hw.drop_0.drop_1.drop_2.front1.front2) fun hS => ?_
      refine et_pure (i := 14) (v := (Value.agg #[(Value.slice A854 n855 c856), (Value.slice A11 n12 c13), (Value.slice A863 n864 c865)])) rfl (by kernel_rfl) (fun _ _ _ h => h) rfl rfl (.inl ⟨(wanted_n rfl), fun _ => run_buildS (parts := [(0, .tmp 24), (1, .tmp 28), (2, .tmp 33)]) (cs := [(Value.slice A854 n855 c856), (Value.slice A11 n12 c13), (Value.slice A863 n864 c865)]) tz73 tp73 rfl⟩) ?_
      refine et_one 15 (by kernel_rfl) ?_
      refine eo_exv rfl (wanted_n rfl) rfl rfl (run_boxE (cs := [(Value.slice A854 n855 c856), (Value.slice A11 n12 c13), (Value.slice A863 n864 c865)]) rfl rfl hw) ?_
      rintro w872 _ ⟨b870, rfl, hw⟩
      refine and_keep (SW.mk (HP.le_trans hle853 hle862) hw.drop_0.drop_0.drop_1.drop_2.front1.front2) fun hS => ?_
      refine et_tail rfl ?_
      refine ey_one (i := 17) (by kernel_rfl) ?_
      replace hw := hw.front5
      refine eo_exu rfl (wanted_n rfl) rfl (run_blkSetE (new := List.toArray [(Value.pointer (some ⟨b870, 0, none⟩))]) hw rfl rfl ts69 rfl rfl rfl) ?_
      rintro w873 hw
      refine ey_done rfl ?_
      replace hw := hw.front4
      replace hw := hw.front2
      replace hw := hw.front2
      replace hw := hw.front6
      replace hw := hw.front5
      replace hw := hw.front6
      obtain rfl := Option.some.inj h
      exact ⟨f861, b849, b870, A854, n855, c856, cur857, A11, n12, c13, A863, n864, c865, cur866, (HP.le_trans hle853 hle862), hk858, hs14, hk867, ⟨rfl, rfl, trivial⟩, hw⟩
  · rintro ρ874 w875 ⟨f745, b748, b750, A752, n753, c754, cur755, A758, n759, c760, A762, n763, c764, cur765, hle746, hk756, hs761, hk766, hl747, hw⟩
    first | refine ewp_live hl747 fun ρ876 => ?_ | rw [← hl747.eq]
    replace hk8 := hk8.mono hle746
    replace hs14 := hs14.mono hle746
    replace hk20 := hk20.mono hle746
    replace hs26 := hs26.mono hle746
    refine ewp_seq ?_
    refine ewp_seq ?_
    refine ewp_region ?_
    refine el_val (v := (Value.slice A23 n24 c25)) (wanted_n rfl) rfl rfl (run_pev (v := (Value.slice A23 n24 c25)) rfl) ?_
    refine el_val (v := (Value.int .i64 (p22.length : Int))) (wanted_n rfl) rfl rfl (run_lenS te23 rfl hs26.len) ?_
    refine el_val (v := (Value.int .i64 0)) (wanted_n rfl) rfl rfl (run_pev (v := (Value.int .i64 0)) rfl) ?_
    refine el_nil ?_
    obtain ⟨c1040, hc1041, h⟩ := bind_some h
    refine ewp_M (fun ρ' w' => ∃ s956, c1040 = .go s956 ∧ ∃ (f957 : HP) (A960 : Option Addr) (n961 : Nat) (c962 : Nat) (cur963 : Array Value), HP.le f745 f957 ∧ ArrOk f957 (fSl fS_mend_Arc) A960 n961 c962 cur963 s956 ∧ Live ρ' [(1, (Value.slice A23 n24 c25)), (6, (Value.pointer (some ⟨b748, 0, none⟩)))] ∧ Wd G w' f957 (Arr A4 c6 cur7 :: Arr A16 c18 cur19 :: Arr A752 c754 cur755 :: Arr A960 c962 cur963 :: Blk b1 (.cells (List.toArray [(Value.slice A4 n5 c6), (Value.slice A11 n12 c13), (Value.slice A16 n17 c18)]) 73 (0, 0)) :: Blk b748 (.cells (List.toArray [(Value.pointer (some ⟨b750, 0, none⟩))]) 69 (0, 0)) :: Blk b750 (.cells (List.toArray [(Value.slice A752 n753 c754), (Value.slice A758 n759 c760), (Value.slice A960 n961 c962)]) 73 (0, 0)) :: L)) noE noX ?_ ?_ ?_ ?_
    · refine ewp_block ?_
      replace hw := hw.front6
      replace hw := hw.front6
      replace hw := hw.front3
      replace hw := hw.front3
      refine ewp_forC (fun (i1042 : Nat) (s956 : List (List S_mend_Arc)) ρ' w' => ∃ (f957 : HP) (A960 : Option Addr) (n961 : Nat) (c962 : Nat) (cur963 : Array Value), HP.le f745 f957 ∧ ArrOk f957 (fSl fS_mend_Arc) A960 n961 c962 cur963 s956 ∧ Live ρ' [(1, (Value.slice A23 n24 c25)), (6, (Value.pointer (some ⟨b748, 0, none⟩))), (36, (Value.slice A23 n24 c25)), (37, (Value.int .i64 (p22.length : Int))), (38, (Value.int .i64 (i1042 : Int)))] ∧ Wd G w' f957 (Arr A4 c6 cur7 :: Arr A16 c18 cur19 :: Arr A752 c754 cur755 :: Arr A960 c962 cur963 :: Blk b1 (.cells (List.toArray [(Value.slice A4 n5 c6), (Value.slice A11 n12 c13), (Value.slice A16 n17 c18)]) 73 (0, 0)) :: Blk b748 (.cells (List.toArray [(Value.pointer (some ⟨b750, 0, none⟩))]) 69 (0, 0)) :: Blk b750 (.cells (List.toArray [(Value.slice A752 n753 c754), (Value.slice A758 n759 c760), (Value.slice A960 n961 c962)]) 73 (0, 0)) :: L)) hc1041 ⟨f745, A762, n763, c764, cur765, (HP.le_refl _), hk766, ⟨rfl, rfl, rfl, rfl, rfl, trivial⟩, hw⟩ ?_ ?_
      · rintro i1042 x1043 s956 ct1046 ρ1044 w1045 hx h ⟨f957, A960, n961, c962, cur963, hle958, hk964, hl959, hw⟩
        unfold mend_solver_with_b6 at h
        first | refine ewp_live hl959 fun ρ1047 => ?_ | rw [← hl959.eq]
        replace hk8 := hk8.mono hle958
        replace hs14 := hs14.mono hle958
        replace hk20 := hk20.mono hle958
        replace hs26 := hs26.mono hle958
        replace hk756 := hk756.mono hle958
        replace hs761 := hs761.mono hle958
        refine ewp_seq ?_
        refine ewp_region ?_
        refine el_val (v := (Value.bool (decide ((i1042 : Int) < (p22.length : Int))))) (wanted_n rfl) rfl rfl (run_pev (v := (Value.bool (decide ((i1042 : Int) < (p22.length : Int))))) rfl) ?_
        refine el_nil ?_
        refine ewp_seq ?_
        refine ewp_cond_t rfl (lt_len hx) ?_
        refine ewp_skip ?_
        refine ewp_seq ?_
        obtain ⟨s1112, hc1121, h⟩ := bind_some h
        refine ewp_N (fun ρ' w' => ∃ (f1113 : HP) (A1116 : Option Addr) (n1117 : Nat) (c1118 : Nat) (cur1119 : Array Value), HP.le f957 f1113 ∧ ArrOk f1113 (fSl fS_mend_Arc) A1116 n1117 c1118 cur1119 s1112 ∧ Live ρ' [(1, (Value.slice A23 n24 c25)), (6, (Value.pointer (some ⟨b748, 0, none⟩))), (36, (Value.slice A23 n24 c25)), (37, (Value.int .i64 (p22.length : Int))), (38, (Value.int .i64 (i1042 : Int)))] ∧ Wd G w' f1113 (Arr A4 c6 cur7 :: Arr A16 c18 cur19 :: Arr A752 c754 cur755 :: Arr A1116 c1118 cur1119 :: Blk b1 (.cells (List.toArray [(Value.slice A4 n5 c6), (Value.slice A11 n12 c13), (Value.slice A16 n17 c18)]) 73 (0, 0)) :: Blk b748 (.cells (List.toArray [(Value.pointer (some ⟨b750, 0, none⟩))]) 69 (0, 0)) :: Blk b750 (.cells (List.toArray [(Value.slice A752 n753 c754), (Value.slice A758 n759 c760), (Value.slice A1116 n1117 c1118)]) 73 (0, 0)) :: L)) ?_ ?_
        · replace h := hc1121
          refine ewp_block ?_
          refine ewp_seq ?_
          refine ewp_region ?_
          obtain ⟨b1122, of1123, es1124, hA1125, hc1126, he1127⟩ := sl_el hs26 (idx_nat hx)
          obtain rfl := fS_mend_Arc.op he1127
          refine el_val (v := (Value.pointer (some (eAdr A23 (((i1042 : Int)).toNat * 3))))) (wanted_n rfl) rfl rfl (run_idx te23 ts34 rfl hs26.len rfl (idx_nat hx) hA1125) ?_
          refine el_val (v := (Value.agg #[(Value.int .i64 x1043.From), (Value.int .i64 x1043.To), (Value.int .i64 x1043.Len)])) (wanted_n rfl) rfl rfl (run_loadN (ad := (eAdr A23 (((i1042 : Int)).toNat * 3))) (cs := [(Value.int .i64 x1043.From), (Value.int .i64 x1043.To), (Value.int .i64 x1043.Len)]) ta34 ts34 rfl rfl (fz_cells hw hc1126)) ?_
          refine el_exv (wanted_n rfl) rfl rfl (run_allocE (cs := [(Value.int .i64 0), (Value.int .i64 0), (Value.int .i64 0)]) tz34 rfl hw) ?_
          rintro w1130 _ ⟨b1128, rfl, hw⟩
          refine el_exu (wanted_n rfl) rfl (run_blkSetE (new := List.toArray [(Value.int .i64 x1043.From), (Value.int .i64 x1043.To), (Value.int .i64 x1043.Len)]) hw rfl rfl ts34 rfl rfl rfl) ?_
          rintro w1131 hw
          refine el_nil ?_
          obtain ⟨x1132, hx1133, h⟩ := bind_some h
          obtain ⟨x1144, hx1145, h⟩ := bind_some h
          obtain ⟨x1158, hx1159, h⟩ := bind_some h
          refine ewp_draw (SW G f957 (Blk b1128 (.cells (List.toArray [(Value.int .i64 x1043.From), (Value.int .i64 x1043.To), (Value.int .i64 x1043.Len)]) 34 (0, 0)) :: Arr A4 c6 cur7 :: Arr A16 c18 cur19 :: Arr A752 c754 cur755 :: Arr A960 c962 cur963 :: Blk b1 (.cells (List.toArray [(Value.slice A4 n5 c6), (Value.slice A11 n12 c13), (Value.slice A16 n17 c18)]) 73 (0, 0)) :: Blk b748 (.cells (List.toArray [(Value.pointer (some ⟨b750, 0, none⟩))]) 69 (0, 0)) :: Blk b750 (.cells (List.toArray [(Value.slice A752 n753 c754), (Value.slice A758 n759 c760), (Value.slice A960 n961 c962)]) 73 (0, 0)) :: L)) [] 18 mixed ?_
          replace hw := hw.drew
          have hS := SW.of hw
          refine et_first (i := 0) (v := (Value.pointer (some ⟨b750, 0, none⟩))) rfl (by kernel_rfl) (fun _ _ _ h => h) rfl rfl (.inl ⟨(wanted_n rfl), fun w9 ⟨f9, hl9, h9⟩ => run_load1 (ad := ⟨b748, 0, none⟩) ta69 rfl (wd_cell 6 h9 rfl rfl)⟩) hS ?_
          refine et_pure (i := 1) (v := (Value.pointer (some ⟨b750, 0, none⟩))) rfl (by kernel_rfl) (fun _ _ _ h => h) rfl rfl (.inl ⟨(wanted_n rfl), fun _ => run_pev (v := (Value.pointer (some ⟨b750, 0, none⟩))) rfl⟩) ?_
          refine et_pure (i := 2) (v := (Value.pointer (some ⟨b750, 2, none⟩))) rfl (by kernel_rfl) (fun _ _ _ h => h) rfl rfl (.inl ⟨(wanted_n rfl), fun _ => run_fieldAddr tf73_2 (o := 0) rfl⟩) ?_
          refine et_first (i := 3) (v := (Value.slice A960 n961 c962)) rfl (by kernel_rfl) (fun _ _ _ h => h) rfl rfl (.inl ⟨(wanted_n rfl), fun w9 ⟨f9, hl9, h9⟩ => run_load1 (ad := ⟨b750, 2, none⟩) ta35 rfl (wd_cell 7 h9 rfl rfl)⟩) hS ?_
          refine et_pure (i := 4) (v := (Value.pointer (some ⟨b1128, 0, none⟩))) rfl (by kernel_rfl) (fun _ _ _ h => h) rfl rfl (.inl ⟨(wanted_n rfl), fun _ => run_fieldAddr tf34_0 (o := 0) rfl⟩) ?_
          refine et_first (i := 5) (v := (Value.int .i64 x1043.From)) rfl (by kernel_rfl) (fun _ _ _ h => h) rfl rfl (.inl ⟨(wanted_n rfl), fun w9 ⟨f9, hl9, h9⟩ => run_load1 (ad := ⟨b1128, 0, none⟩) ta3 rfl (wd_cell 0 h9 rfl rfl)⟩) hS ?_
          refine et_first (i := 6) (v := (Value.pointer (some ⟨b750, 0, none⟩))) rfl (by kernel_rfl) (fun _ _ _ h => h) rfl rfl (.inl ⟨(wanted_n rfl), fun w9 ⟨f9, hl9, h9⟩ => run_load1 (ad := ⟨b748, 0, none⟩) ta69 rfl (wd_cell 6 h9 rfl rfl)⟩) hS ?_
          refine et_pure (i := 7) (v := (Value.pointer (some ⟨b750, 0, none⟩))) rfl (by kernel_rfl) (fun _ _ _ h => h) rfl rfl (.inl ⟨(wanted_n rfl), fun _ => run_pev (v := (Value.pointer (some ⟨b750, 0, none⟩))) rfl⟩) ?_
          refine et_pure (i := 8) (v := (Value.pointer (some ⟨b750, 2, none⟩))) rfl (by kernel_rfl) (fun _ _ _ h => h) rfl rfl (.inl ⟨(wanted_n rfl), fun _ => run_fieldAddr tf73_2 (o := 0) rfl⟩) ?_
          refine et_first (i := 9) (v := (Value.slice A960 n961 c962)) rfl (by kernel_rfl) (fun _ _ _ h => h) rfl rfl (.inl ⟨(wanted_n rfl), fun w9 ⟨f9, hl9, h9⟩ => run_load1 (ad := ⟨b750, 2, none⟩) ta35 rfl (wd_cell 7 h9 rfl rfl)⟩) hS ?_
          refine et_pure (i := 10) (v := (Value.pointer (some ⟨b1128, 0, none⟩))) rfl (by kernel_rfl) (fun _ _ _ h => h) rfl rfl (.inl ⟨(wanted_n rfl), fun _ => run_fieldAddr tf34_0 (o := 0) rfl⟩) ?_
          refine et_first (i := 11) (v := (Value.int .i64 x1043.From)) rfl (by kernel_rfl) (fun _ _ _ h => h) rfl rfl (.inl ⟨(wanted_n rfl), fun w9 ⟨f9, hl9, h9⟩ => run_load1 (ad := ⟨b1128, 0, none⟩) ta3 rfl (wd_cell 0 h9 rfl rfl)⟩) hS ?_
          obtain ⟨b1182, of1183, es1184, hA1185, hc1186, he1187⟩ := arr_el hk964 hx1133
          obtain ⟨A1188, n1189, c1190, rfl, hs1191⟩ := he1187
          refine et_pure (i := 12) (v := (Value.pointer (some (eAdr A960 ((x1043.From).toNat * 1))))) rfl (by kernel_rfl) (fun _ _ _ h => h) rfl rfl (.inl ⟨(wanted_n rfl), fun _ => run_idx te35 ts23 rfl hk964.len rfl hx1133 hA1185⟩) ?_
          refine et_first (i := 13) (v := (Value.slice A1188 n1189 c1190)) rfl (by kernel_rfl) (fun _ _ _ h => h) rfl rfl (.inl ⟨(wanted_n rfl), fun w9 ⟨f9, hl9, h9⟩ => run_load1 (ad := (eAdr A960 ((x1043.From).toNat * 1))) ta23 rfl (wd_arr 4 h9 rfl hA1185 (hc1186 0 _ rfl))⟩) hS ?_
          refine et_first (i := 15) (v := (Value.agg #[(Value.int .i64 x1043.From), (Value.int .i64 x1043.To), (Value.int .i64 x1043.Len)])) rfl (by kernel_rfl) (fun _ _ _ h => h) rfl rfl (.inl ⟨(wanted_n rfl), fun w9 ⟨f9, hl9, h9⟩ => run_loadN (ad := ⟨b1128, 0, none⟩) (cs := [(Value.int .i64 x1043.From), (Value.int .i64 x1043.To), (Value.int .i64 x1043.Len)]) ta34 ts34 rfl rfl (wd_cells 0 h9 rfl rfl)⟩) hS ?_
          refine et_all [14, 16] (by kernel_rfl) ?_
          intro j1192 hj
          simp only [List.mem_cons, List.not_mem_nil, or_false] at hj
          rcases hj with rfl | rfl
          · refine eo_call rfl (wanted_n rfl) rfl rfl (run_call (vals := (List.toArray [(Value.slice A1188 n1189 c1190)])) rfl cl11 rfl) (slices_Clone_mend_Arc_mend_Arc_v2.calls hw hs1191 hx1145) ?_
            rintro _ w1201 ⟨f1193, A1195, n1196, c1197, cur1198, hle1194, rfl, hk1199, hw⟩
            replace hk8 := hk8.mono hle1194
            replace hs14 := hs14.mono hle1194
            replace hk20 := hk20.mono hle1194
            replace hs26 := hs26.mono hle1194
            replace hk756 := hk756.mono hle1194
            replace hs761 := hs761.mono hle1194
            replace hk964 := hk964.mono hle1194
            replace hc1126 := fun j v hv => hcell_le hle1194 (hc1126 j v hv)
            replace hs1191 := hs1191.mono hle1194
            refine and_keep (SW.mk hle1194 hw.drop_0.front7.front7.front7.front7.front7.front7.front7.front7) fun hS => ?_
            refine et_one 16 (by kernel_rfl) ?_
            refine eo_exv rfl (wanted_n rfl) rfl rfl (run_buildSliceE (parts := [(0, .tmp 57)]) (cs := [(Value.int .i64 x1043.From), (Value.int .i64 x1043.To), (Value.int .i64 x1043.Len)]) te23 ts34 tz34 rfl tm34_1 rfl hw) ?_
            rintro w1204 _ ⟨b1202, rfl, hw⟩
            refine and_keep (SW.mk hle1194 hw.drop_0.drop_0.front7.front7.front7.front7.front7.front7.front7.front7) fun hS => ?_
            refine et_one 17 (by kernel_rfl) ?_
            replace hw := hw.front1
            refine eo_exv rfl (wanted_n rfl) rfl rfl (run_arrApp1 (E := fS_mend_Arc) tA23 hw hk1199 rfl rfl (fS_mend_Arc.mk (x := x1043) ) hx1159) ?_
            rintro w1210 _ ⟨A1205, n1206, c1207, cur1208, rfl, hk1209, hw⟩
            refine and_keep (SW.mk hle1194 hw.drop_0.front7.front7.front7.front7.front7.front7.front7.front7) fun hS => ?_
            refine et_tail rfl ?_
            refine ey_one (i := 18) (by kernel_rfl) ?_
            obtain ⟨b1211, of1212, es1213, hA1214, hc1215, he1216⟩ := arr_el hk964 hx1133
            obtain ⟨A1217, n1218, c1219, rfl, hs1220⟩ := he1216
            refine eo_val (v := (Value.pointer (some (eAdr A960 ((x1043.From).toNat * 1))))) rfl (wanted_n rfl) rfl rfl (run_idx te35 ts23 rfl hk964.len rfl hx1133 hA1214) ?_
            refine ey_one (i := 19) (by kernel_rfl) ?_
            obtain ⟨f1221, hle1222, hs1223, hw⟩ := arr_freeze hk1209 hw
            replace hk8 := hk8.mono hle1222
            replace hs14 := hs14.mono hle1222
            replace hk20 := hk20.mono hle1222
            replace hs26 := hs26.mono hle1222
            replace hk756 := hk756.mono hle1222
            replace hs761 := hs761.mono hle1222
            replace hk964 := hk964.mono hle1222
            replace hc1126 := fun j v hv => hcell_le hle1222 (hc1126 j v hv)
            replace hs1191 := hs1191.mono hle1222
            replace hs1220 := hs1220.mono hle1222
            replace hw := hw.front4
            refine eo_exu rfl (wanted_n rfl) rfl (run_arrSet (E := fSl fS_mend_Arc) (y := x1158) hw hk964 hx1133 rfl rfl ts23 rfl ⟨_, _, _, rfl, hs1223⟩) ?_
            rintro w1226 ⟨cur1224, hk1225, hw⟩
            refine ey_done rfl ?_
            replace hw := hw.drop_1
            replace hw := hw.front3
            replace hw := hw.front3
            replace hw := hw.front3
            obtain rfl := Option.some.inj h
            exact ⟨f1221, A960, n961, c962, cur1224, (HP.le_trans hle1194 hle1222), hk1225, ⟨rfl, rfl, rfl, rfl, rfl, trivial⟩, hw⟩
          · refine eo_exv rfl (wanted_n rfl) rfl rfl (run_buildSliceE (parts := [(0, .tmp 57)]) (cs := [(Value.int .i64 x1043.From), (Value.int .i64 x1043.To), (Value.int .i64 x1043.Len)]) te23 ts34 tz34 rfl tm34_1 rfl hw) ?_
            rintro w1229 _ ⟨b1227, rfl, hw⟩
            refine and_keep (SW.mk (HP.le_refl _) hw.drop_0.front7.front7.front7.front7.front7.front7.front7.front7) fun hS => ?_
            refine et_one 14 (by kernel_rfl) ?_
            refine eo_call rfl (wanted_n rfl) rfl rfl (run_call (vals := (List.toArray [(Value.slice A1188 n1189 c1190)])) rfl cl11 rfl) (slices_Clone_mend_Arc_mend_Arc_v2.calls hw hs1191 hx1145) ?_
            rintro _ w1238 ⟨f1230, A1232, n1233, c1234, cur1235, hle1231, rfl, hk1236, hw⟩
            replace hk8 := hk8.mono hle1231
            replace hs14 := hs14.mono hle1231
            replace hk20 := hk20.mono hle1231
            replace hs26 := hs26.mono hle1231
            replace hk756 := hk756.mono hle1231
            replace hs761 := hs761.mono hle1231
            replace hk964 := hk964.mono hle1231
            replace hc1126 := fun j v hv => hcell_le hle1231 (hc1126 j v hv)
            replace hs1191 := hs1191.mono hle1231
            refine and_keep (SW.mk hle1231 hw.drop_0.drop_0.front7.front7.front7.front7.front7.front7.front7.front7) fun hS => ?_
            refine et_one 17 (by kernel_rfl) ?_
            replace hw := hw.front1
            replace hw := hw.front1
            refine eo_exv rfl (wanted_n rfl) rfl rfl (run_arrApp1 (E := fS_mend_Arc) tA23 hw hk1236 rfl rfl (fS_mend_Arc.mk (x := x1043) ) hx1159) ?_
            rintro w1244 _ ⟨A1239, n1240, c1241, cur1242, rfl, hk1243, hw⟩
            refine and_keep (SW.mk hle1231 hw.drop_0.front7.front7.front7.front7.front7.front7.front7.front7) fun hS => ?_
            refine et_tail rfl ?_
            refine ey_one (i := 18) (by kernel_rfl) ?_
            obtain ⟨b1245, of1246, es1247, hA1248, hc1249, he1250⟩ := arr_el hk964 hx1133
            obtain ⟨A1251, n1252, c1253, rfl, hs1254⟩ := he1250
            refine eo_val (v := (Value.pointer (some (eAdr A960 ((x1043.From).toNat * 1))))) rfl (wanted_n rfl) rfl rfl (run_idx te35 ts23 rfl hk964.len rfl hx1133 hA1248) ?_
            refine ey_one (i := 19) (by kernel_rfl) ?_
            obtain ⟨f1255, hle1256, hs1257, hw⟩ := arr_freeze hk1243 hw
            replace hk8 := hk8.mono hle1256
            replace hs14 := hs14.mono hle1256
            replace hk20 := hk20.mono hle1256
            replace hs26 := hs26.mono hle1256
            replace hk756 := hk756.mono hle1256
            replace hs761 := hs761.mono hle1256
            replace hk964 := hk964.mono hle1256
            replace hc1126 := fun j v hv => hcell_le hle1256 (hc1126 j v hv)
            replace hs1191 := hs1191.mono hle1256
            replace hs1254 := hs1254.mono hle1256
            replace hw := hw.front4
            refine eo_exu rfl (wanted_n rfl) rfl (run_arrSet (E := fSl fS_mend_Arc) (y := x1158) hw hk964 hx1133 rfl rfl ts23 rfl ⟨_, _, _, rfl, hs1257⟩) ?_
            rintro w1260 ⟨cur1258, hk1259, hw⟩
            refine ey_done rfl ?_
            replace hw := hw.drop_1
            replace hw := hw.front3
            replace hw := hw.front3
            replace hw := hw.front3
            obtain rfl := Option.some.inj h
            exact ⟨f1255, A960, n961, c962, cur1258, (HP.le_trans hle1231 hle1256), hk1259, ⟨rfl, rfl, rfl, rfl, rfl, trivial⟩, hw⟩
        · rintro ρ1261 w1262 ⟨f1113, A1116, n1117, c1118, cur1119, hle1114, hk1120, hl1115, hw⟩
          first | refine ewp_live hl1115 fun ρ1263 => ?_ | rw [← hl1115.eq]
          replace hk8 := hk8.mono hle1114
          replace hs14 := hs14.mono hle1114
          replace hk20 := hk20.mono hle1114
          replace hs26 := hs26.mono hle1114
          replace hk756 := hk756.mono hle1114
          replace hs761 := hs761.mono hle1114
          refine ewp_region ?_
          refine el_val (v := (Value.int .i64 (w64 ((i1042 : Int) + 1)))) (wanted_n rfl) rfl rfl (run_pev (v := (Value.int .i64 (w64 ((i1042 : Int) + 1)))) rfl) ?_
          refine el_val (v := (Value.int .i64 (w64 ((i1042 : Int) + 1)))) (wanted_n rfl) rfl rfl (run_pev (v := (Value.int .i64 (w64 ((i1042 : Int) + 1)))) rfl) ?_
          refine el_nil ?_
          obtain rfl := Option.some.inj h
          exact ⟨_, rfl, f1113, A1116, n1117, c1118, cur1119, (HP.le_trans hle958 hle1114), hk1120, ⟨rfl, rfl, rfl, rfl, (congrArg (Value.int .i64) (succ_w64 hs26.room hx)), trivial⟩, hw⟩
      · rintro s956 ρ1264 w1265 hfin1266 ⟨f957, A960, n961, c962, cur963, hle958, hk964, hl959, hw⟩
        first | refine ewp_live hl959 fun ρ1267 => ?_ | rw [← hl959.eq]
        replace hk8 := hk8.mono hle958
        replace hs14 := hs14.mono hle958
        replace hk20 := hk20.mono hle958
        replace hs26 := hs26.mono hle958
        replace hk756 := hk756.mono hle958
        replace hs761 := hs761.mono hle958
        refine ewp_seq ?_
        refine ewp_region ?_
        refine el_val (v := (Value.bool (decide ((p22.length : Int) < (p22.length : Int))))) (wanted_n rfl) rfl rfl (run_pev (v := (Value.bool (decide ((p22.length : Int) < (p22.length : Int))))) rfl) ?_
        refine el_nil ?_
        refine ewp_seq ?_
        refine ewp_cond_f rfl (nlt_self _) ?_
        refine ewp_exit ?_
        exact ⟨s956, hfin1266, f957, A960, n961, c962, cur963, hle958, hk964, ⟨rfl, rfl, trivial⟩, hw⟩
    · rintro ρ1268 w1269 ⟨s956, rfl, f957, A960, n961, c962, cur963, hle958, hk964, hl959, hw⟩
      replace h := on_go h
      first | refine ewp_live hl959 fun ρ1270 => ?_ | rw [← hl959.eq]
      replace hk8 := hk8.mono hle958
      replace hs14 := hs14.mono hle958
      replace hk20 := hk20.mono hle958
      replace hs26 := hs26.mono hle958
      replace hk756 := hk756.mono hle958
      replace hs761 := hs761.mono hle958
      refine ewp_seq ?_
      refine ewp_region ?_
      refine el_val (v := (Value.pointer (some ⟨b750, 0, none⟩))) (wanted_n rfl) rfl rfl (run_load1 (ad := ⟨b748, 0, none⟩) ta69 rfl (wd_cell 5 hw rfl rfl)) ?_
      refine el_val (v := (Value.pointer (some ⟨b750, 0, none⟩))) (wanted_n rfl) rfl rfl (run_pev (v := (Value.pointer (some ⟨b750, 0, none⟩))) rfl) ?_
      refine el_val (v := (Value.pointer (some ⟨b750, 0, none⟩))) (wanted_n rfl) rfl rfl (run_fieldAddr tf73_0 (o := 0) rfl) ?_
      refine el_val (v := (Value.slice A752 n753 c754)) (wanted_n rfl) rfl rfl (run_load1 (ad := ⟨b750, 0, none⟩) ta22 rfl (wd_cell 6 hw rfl rfl)) ?_
      refine el_val (v := (Value.int .i64 (s744.1.length : Int))) (wanted_n rfl) rfl rfl (run_lenS te22 rfl hk756.len) ?_
      obtain ⟨x1271, hx1272, h⟩ := bind_some h
      refine el_exv (wanted_n rfl) rfl rfl (run_arrMake (E := fBool) te88 ts4 tb4 tz4 rfl rfl rfl hx1272 hw) ?_
      rintro w1279 _ ⟨A1273, n1274, c1275, cur1276, rfl, hk1277, hw⟩
      refine el_exv (wanted_n rfl) rfl rfl (run_allocE (cs := [(Value.slice none 0 0)]) tz88 rfl hw) ?_
      rintro w1282 _ ⟨b1280, rfl, hw⟩
      refine el_exu (wanted_n rfl) rfl (run_blkSetE (new := List.toArray [(Value.slice A1273 n1274 c1275)]) hw rfl rfl ts88 rfl rfl rfl) ?_
      rintro w1283 hw
      refine el_nil ?_
      refine ewp_seq ?_
      refine ewp_region ?_
      refine el_val (v := (Value.pointer (some ⟨b750, 0, none⟩))) (wanted_n rfl) rfl rfl (run_load1 (ad := ⟨b748, 0, none⟩) ta69 rfl (wd_cell 7 hw rfl rfl)) ?_
      refine el_val (v := (Value.pointer (some ⟨b750, 0, none⟩))) (wanted_n rfl) rfl rfl (run_pev (v := (Value.pointer (some ⟨b750, 0, none⟩))) rfl) ?_
      refine el_val (v := (Value.pointer (some ⟨b750, 0, none⟩))) (wanted_n rfl) rfl rfl (run_fieldAddr tf73_0 (o := 0) rfl) ?_
      refine el_val (v := (Value.slice A752 n753 c754)) (wanted_n rfl) rfl rfl (run_load1 (ad := ⟨b750, 0, none⟩) ta22 rfl (wd_cell 8 hw rfl rfl)) ?_
      refine el_val (v := (Value.int .i64 (s744.1.length : Int))) (wanted_n rfl) rfl rfl (run_lenS te22 rfl hk756.len) ?_
      obtain ⟨x1284, hx1285, h⟩ := bind_some h
      refine el_exv (wanted_n rfl) rfl rfl (run_arrMake (E := fInt .i64) te22 ts3 tb3 tz3 rfl rfl rfl hx1285 hw) ?_
      rintro w1292 _ ⟨A1286, n1287, c1288, cur1289, rfl, hk1290, hw⟩
      refine el_exv (wanted_n rfl) rfl rfl (run_allocE (cs := [(Value.slice none 0 0)]) tz22 rfl hw) ?_
      rintro w1295 _ ⟨b1293, rfl, hw⟩
      refine el_exu (wanted_n rfl) rfl (run_blkSetE (new := List.toArray [(Value.slice A1286 n1287 c1288)]) hw rfl rfl ts22 rfl rfl rfl) ?_
      rintro w1296 hw
      refine el_nil ?_
      refine ewp_seq ?_
      refine ewp_region ?_
      refine el_exv (wanted_n rfl) rfl rfl (run_allocE (cs := [(Value.slice none 0 0)]) tz22 rfl hw) ?_
      rintro w1299 _ ⟨b1297, rfl, hw⟩
      refine el_nil ?_
      refine ewp_seq ?_
      refine ewp_region ?_
      refine el_exv (wanted_n rfl) rfl rfl (run_allocE (cs := [(Value.bool false)]) tz4 rfl hw) ?_
      rintro w1302 _ ⟨b1300, rfl, hw⟩
      refine el_exu (wanted_n rfl) rfl (run_blkSetE (new := List.toArray [(Value.bool true)]) hw rfl rfl ts4 rfl rfl rfl) ?_
      rintro w1303 hw
      refine el_nil ?_
      refine ewp_seq ?_
      refine ewp_region ?_
      refine el_val (v := (Value.func (.func 61) #[] #[(Value.pointer (some ⟨b748, 0, none⟩)), (Value.pointer (some ⟨b1293, 0, none⟩)), (Value.pointer (some ⟨b1300, 0, none⟩)), (Value.pointer (some ⟨b1280, 0, none⟩)), (Value.pointer (some ⟨b1297, 0, none⟩))])) (wanted_n rfl) rfl rfl (run_pev (v := (Value.func (.func 61) #[] #[(Value.pointer (some ⟨b748, 0, none⟩)), (Value.pointer (some ⟨b1293, 0, none⟩)), (Value.pointer (some ⟨b1300, 0, none⟩)), (Value.pointer (some ⟨b1280, 0, none⟩)), (Value.pointer (some ⟨b1297, 0, none⟩))])) rfl) ?_
      refine el_val (v := (Value.func (.func 61) #[] #[(Value.pointer (some ⟨b748, 0, none⟩)), (Value.pointer (some ⟨b1293, 0, none⟩)), (Value.pointer (some ⟨b1300, 0, none⟩)), (Value.pointer (some ⟨b1280, 0, none⟩)), (Value.pointer (some ⟨b1297, 0, none⟩))])) (wanted_n rfl) rfl rfl (run_pev (v := (Value.func (.func 61) #[] #[(Value.pointer (some ⟨b748, 0, none⟩)), (Value.pointer (some ⟨b1293, 0, none⟩)), (Value.pointer (some ⟨b1300, 0, none⟩)), (Value.pointer (some ⟨b1280, 0, none⟩)), (Value.pointer (some ⟨b1297, 0, none⟩))])) rfl) ?_
      refine el_nil ?_
      refine ewp_seq ?_
      refine ewp_seq ?_
      refine ewp_region ?_
      refine el_val (v := (Value.slice A23 n24 c25)) (wanted_n rfl) rfl rfl (run_pev (v := (Value.slice A23 n24 c25)) rfl) ?_
      refine el_val (v := (Value.int .i64 (p22.length : Int))) (wanted_n rfl) rfl rfl (run_lenS te23 rfl hs26.len) ?_
      refine el_val (v := (Value.int .i64 0)) (wanted_n rfl) rfl rfl (run_pev (v := (Value.int .i64 0)) rfl) ?_
      refine el_nil ?_
      obtain ⟨c1390, hc1391, h⟩ := bind_some h
      refine ewp_M (fun ρ' w' => ∃ s1337, c1390 = .go s1337 ∧ ∃ (f1338 : HP) (A1341 : Option Addr) (n1342 : Nat) (c1343 : Nat) (cur1344 : Array Value) (A1346 : Option Addr) (n1347 : Nat) (c1348 : Nat) (cur1349 : Array Value) (A1351 : Option Addr) (n1352 : Nat) (c1353 : Nat) (cur1354 : Array Value) (A1356 : Option Addr) (n1357 : Nat) (c1358 : Nat) (cur1359 : Array Value), HP.le f957 f1338 ∧ ArrOk f1338 (fInt .i64) A1341 n1342 c1343 cur1344 s1337.1 ∧ ArrOk f1338 fBool A1346 n1347 c1348 cur1349 s1337.2.1 ∧ ArrOk f1338 (fInt .i64) A1351 n1352 c1353 cur1354 s1337.2.2.1 ∧ ArrOk f1338 (fInt .i64) A1356 n1357 c1358 cur1359 s1337.2.2.2.2 ∧ Live ρ' [(6, (Value.pointer (some ⟨b748, 0, none⟩))), (9, (Value.pointer (some ⟨b1280, 0, none⟩))), (11, (Value.pointer (some ⟨b1297, 0, none⟩))), (12, (Value.pointer (some ⟨b1300, 0, none⟩))), (13, (Value.func (.func 61) #[] #[(Value.pointer (some ⟨b748, 0, none⟩)), (Value.pointer (some ⟨b1293, 0, none⟩)), (Value.pointer (some ⟨b1300, 0, none⟩)), (Value.pointer (some ⟨b1280, 0, none⟩)), (Value.pointer (some ⟨b1297, 0, none⟩))]))] ∧ Wd G w' f1338 (Arr A1341 c1343 cur1344 :: Arr A1346 c1348 cur1349 :: Arr A4 c6 cur7 :: Arr A16 c18 cur19 :: Arr A1351 c1353 cur1354 :: Arr A960 c962 cur963 :: Blk b1300 (.cells (List.toArray [(Value.bool s1337.2.2.2.1)]) 4 (0, 0)) :: Arr A1356 c1358 cur1359 :: Blk b1297 (.cells (List.toArray [(Value.slice A1356 n1357 c1358)]) 22 (0, 0)) :: Blk b1293 (.cells (List.toArray [(Value.slice A1341 n1342 c1343)]) 22 (0, 0)) :: Blk b1280 (.cells (List.toArray [(Value.slice A1346 n1347 c1348)]) 88 (0, 0)) :: Blk b1 (.cells (List.toArray [(Value.slice A4 n5 c6), (Value.slice A11 n12 c13), (Value.slice A16 n17 c18)]) 73 (0, 0)) :: Blk b748 (.cells (List.toArray [(Value.pointer (some ⟨b750, 0, none⟩))]) 69 (0, 0)) :: Blk b750 (.cells (List.toArray [(Value.slice A1351 n1352 c1353), (Value.slice A758 n759 c760), (Value.slice A960 n961 c962)]) 73 (0, 0)) :: L)) noE noX ?_ ?_ ?_ ?_
      · refine ewp_block ?_
        obtain ⟨hk1395, hw⟩ := wd_arrNil (E := fInt .i64) hw
        replace hw := hw.front1
        replace hw := hw.front10
        replace hw := hw.front10
        replace hw := hw.front10
        replace hw := hw.front10
        replace hw := hw.front10
        replace hw := hw.front9
        refine ewp_forC (fun (i1392 : Nat) (s1337 : List Int × List Bool × List Int × Bool × List Int) ρ' w' => ∃ (f1338 : HP) (A1341 : Option Addr) (n1342 : Nat) (c1343 : Nat) (cur1344 : Array Value) (A1346 : Option Addr) (n1347 : Nat) (c1348 : Nat) (cur1349 : Array Value) (A1351 : Option Addr) (n1352 : Nat) (c1353 : Nat) (cur1354 : Array Value) (A1356 : Option Addr) (n1357 : Nat) (c1358 : Nat) (cur1359 : Array Value), HP.le f957 f1338 ∧ ArrOk f1338 (fInt .i64) A1341 n1342 c1343 cur1344 s1337.1 ∧ ArrOk f1338 fBool A1346 n1347 c1348 cur1349 s1337.2.1 ∧ ArrOk f1338 (fInt .i64) A1351 n1352 c1353 cur1354 s1337.2.2.1 ∧ ArrOk f1338 (fInt .i64) A1356 n1357 c1358 cur1359 s1337.2.2.2.2 ∧ Live ρ' [(6, (Value.pointer (some ⟨b748, 0, none⟩))), (9, (Value.pointer (some ⟨b1280, 0, none⟩))), (11, (Value.pointer (some ⟨b1297, 0, none⟩))), (12, (Value.pointer (some ⟨b1300, 0, none⟩))), (13, (Value.func (.func 61) #[] #[(Value.pointer (some ⟨b748, 0, none⟩)), (Value.pointer (some ⟨b1293, 0, none⟩)), (Value.pointer (some ⟨b1300, 0, none⟩)), (Value.pointer (some ⟨b1280, 0, none⟩)), (Value.pointer (some ⟨b1297, 0, none⟩))])), (75, (Value.slice A23 n24 c25)), (76, (Value.int .i64 (p22.length : Int))), (77, (Value.int .i64 (i1392 : Int)))] ∧ Wd G w' f1338 (Arr A1341 c1343 cur1344 :: Arr A1346 c1348 cur1349 :: Arr A4 c6 cur7 :: Arr A16 c18 cur19 :: Arr A1351 c1353 cur1354 :: Arr A960 c962 cur963 :: Blk b1300 (.cells (List.toArray [(Value.bool s1337.2.2.2.1)]) 4 (0, 0)) :: Arr A1356 c1358 cur1359 :: Blk b1297 (.cells (List.toArray [(Value.slice A1356 n1357 c1358)]) 22 (0, 0)) :: Blk b1293 (.cells (List.toArray [(Value.slice A1341 n1342 c1343)]) 22 (0, 0)) :: Blk b1280 (.cells (List.toArray [(Value.slice A1346 n1347 c1348)]) 88 (0, 0)) :: Blk b1 (.cells (List.toArray [(Value.slice A4 n5 c6), (Value.slice A11 n12 c13), (Value.slice A16 n17 c18)]) 73 (0, 0)) :: Blk b748 (.cells (List.toArray [(Value.pointer (some ⟨b750, 0, none⟩))]) 69 (0, 0)) :: Blk b750 (.cells (List.toArray [(Value.slice A1351 n1352 c1353), (Value.slice A758 n759 c760), (Value.slice A960 n961 c962)]) 73 (0, 0)) :: L)) hc1391 ⟨f957, A1286, n1287, c1288, cur1289, A1273, n1274, c1275, cur1276, A752, n753, c754, cur755, none, 0, 0, (#[]), (HP.le_refl _), hk1290, hk1277, hk756, hk1395, ⟨rfl, rfl, rfl, rfl, rfl, rfl, rfl, rfl, trivial⟩, hw⟩ ?_ ?_
        · rintro i1392 x1393 s1337 ct1399 ρ1397 w1398 hx h ⟨f1338, A1341, n1342, c1343, cur1344, A1346, n1347, c1348, cur1349, A1351, n1352, c1353, cur1354, A1356, n1357, c1358, cur1359, hle1339, hk1345, hk1350, hk1355, hk1360, hl1340, hw⟩
          unfold mend_solver_with_b7 at h
          first | refine ewp_live hl1340 fun ρ1400 => ?_ | rw [← hl1340.eq]
          replace hk8 := hk8.mono hle1339
          replace hs14 := hs14.mono hle1339
          replace hk20 := hk20.mono hle1339
          replace hs26 := hs26.mono hle1339
          replace hs761 := hs761.mono hle1339
          replace hk964 := hk964.mono hle1339
          refine ewp_seq ?_
          refine ewp_region ?_
          refine el_val (v := (Value.bool (decide ((i1392 : Int) < (p22.length : Int))))) (wanted_n rfl) rfl rfl (run_pev (v := (Value.bool (decide ((i1392 : Int) < (p22.length : Int))))) rfl) ?_
          refine el_nil ?_
          refine ewp_seq ?_
          refine ewp_cond_t rfl (lt_len hx) ?_
          refine ewp_skip ?_
          refine ewp_seq ?_
          refine ewp_block ?_
          refine ewp_seq ?_
          refine ewp_region ?_
          obtain ⟨b1401, of1402, es1403, hA1404, hc1405, he1406⟩ := sl_el hs26 (idx_nat hx)
          obtain rfl := fS_mend_Arc.op he1406
          refine el_val (v := (Value.pointer (some (eAdr A23 (((i1392 : Int)).toNat * 3))))) (wanted_n rfl) rfl rfl (run_idx te23 ts34 rfl hs26.len rfl (idx_nat hx) hA1404) ?_
          refine el_val (v := (Value.agg #[(Value.int .i64 x1393.From), (Value.int .i64 x1393.To), (Value.int .i64 x1393.Len)])) (wanted_n rfl) rfl rfl (run_loadN (ad := (eAdr A23 (((i1392 : Int)).toNat * 3))) (cs := [(Value.int .i64 x1393.From), (Value.int .i64 x1393.To), (Value.int .i64 x1393.Len)]) ta34 ts34 rfl rfl (fz_cells hw hc1405)) ?_
          refine el_exv (wanted_n rfl) rfl rfl (run_allocE (cs := [(Value.int .i64 0), (Value.int .i64 0), (Value.int .i64 0)]) tz34 rfl hw) ?_
          rintro w1409 _ ⟨b1407, rfl, hw⟩
          refine el_exu (wanted_n rfl) rfl (run_blkSetE (new := List.toArray [(Value.int .i64 x1393.From), (Value.int .i64 x1393.To), (Value.int .i64 x1393.Len)]) hw rfl rfl ts34 rfl rfl rfl) ?_
          rintro w1410 hw
          refine el_nil ?_
          refine ewp_region ?_
          refine el_val (v := (Value.func (.func 61) #[] #[(Value.pointer (some ⟨b748, 0, none⟩)), (Value.pointer (some ⟨b1293, 0, none⟩)), (Value.pointer (some ⟨b1300, 0, none⟩)), (Value.pointer (some ⟨b1280, 0, none⟩)), (Value.pointer (some ⟨b1297, 0, none⟩))])) (wanted_n rfl) rfl rfl (run_pev (v := (Value.func (.func 61) #[] #[(Value.pointer (some ⟨b748, 0, none⟩)), (Value.pointer (some ⟨b1293, 0, none⟩)), (Value.pointer (some ⟨b1300, 0, none⟩)), (Value.pointer (some ⟨b1280, 0, none⟩)), (Value.pointer (some ⟨b1297, 0, none⟩))])) rfl) ?_
          refine el_val (v := (Value.agg #[(Value.int .i64 x1393.From), (Value.int .i64 x1393.To), (Value.int .i64 x1393.Len)])) (wanted_n rfl) rfl rfl (run_loadN (ad := ⟨b1407, 0, none⟩) (cs := [(Value.int .i64 x1393.From), (Value.int .i64 x1393.To), (Value.int .i64 x1393.Len)]) ta34 ts34 rfl rfl (wd_cells 0 hw rfl rfl)) ?_
          obtain ⟨x1411, hx1412, h⟩ := bind_some h
          replace hw := hw.front8
          replace hw := hw.front9
          replace hw := hw.front4
          replace hw := hw.front11
          replace hw := hw.front10
          replace hw := hw.front6
          replace hw := hw.front11
          replace hw := hw.front11
          replace hw := hw.front11
          replace hw := hw.front14
          replace hw := hw.front14
          refine el_call (wanted_n rfl) rfl rfl (run_call (vals := (List.toArray [(Value.agg #[(Value.int .i64 x1393.From), (Value.int .i64 x1393.To), (Value.int .i64 x1393.Len)]), (Value.pointer (some ⟨b748, 0, none⟩)), (Value.pointer (some ⟨b1293, 0, none⟩)), (Value.pointer (some ⟨b1300, 0, none⟩)), (Value.pointer (some ⟨b1280, 0, none⟩)), (Value.pointer (some ⟨b1297, 0, none⟩))])) rfl cl61 rfl) (mend_solver_with_1_v2.calls hw hk1355 hs761 hk964 hk1345 hk1350 hk1360 hx1412) ?_
          rintro _ w1426 ⟨f1413, cur1416, cur1418, cur1420, A1423, n1424, c1425, cur1422, hle1414, rfl, hk1415, hk1417, hk1419, hk1421, hw⟩
          replace hk8 := hk8.mono hle1414
          replace hs14 := hs14.mono hle1414
          replace hk20 := hk20.mono hle1414
          replace hs26 := hs26.mono hle1414
          replace hs761 := hs761.mono hle1414
          replace hk964 := hk964.mono hle1414
          replace hc1405 := fun j v hv => hcell_le hle1414 (hc1405 j v hv)
          refine el_nil ?_
          refine ewp_region ?_
          refine el_val (v := (Value.int .i64 (w64 ((i1392 : Int) + 1)))) (wanted_n rfl) rfl rfl (run_pev (v := (Value.int .i64 (w64 ((i1392 : Int) + 1)))) rfl) ?_
          refine el_val (v := (Value.int .i64 (w64 ((i1392 : Int) + 1)))) (wanted_n rfl) rfl rfl (run_pev (v := (Value.int .i64 (w64 ((i1392 : Int) + 1)))) rfl) ?_
          refine el_nil ?_
          replace hw := hw.drop_11
          replace hw := hw.front13
          replace hw := hw.front8
          replace hw := hw.front6
          replace hw := hw.front10
          replace hw := hw.front11
          replace hw := hw.front10
          replace hw := hw.front9
          replace hw := hw.front9
          replace hw := hw.front13
          replace hw := hw.front13
          replace hw := hw.front13
          replace hw := hw.front13
          obtain rfl := Option.some.inj h
          exact ⟨_, rfl, f1413, A1341, n1342, c1343, cur1418, A1346, n1347, c1348, cur1420, A1351, n1352, c1353, cur1416, A1423, n1424, c1425, cur1422, (HP.le_trans hle1339 hle1414), hk1417, hk1419, hk1415, hk1421, ⟨rfl, rfl, rfl, rfl, rfl, rfl, rfl, (congrArg (Value.int .i64) (succ_w64 hs26.room hx)), trivial⟩, hw⟩
        · rintro s1337 ρ1427 w1428 hfin1429 ⟨f1338, A1341, n1342, c1343, cur1344, A1346, n1347, c1348, cur1349, A1351, n1352, c1353, cur1354, A1356, n1357, c1358, cur1359, hle1339, hk1345, hk1350, hk1355, hk1360, hl1340, hw⟩
          first | refine ewp_live hl1340 fun ρ1430 => ?_ | rw [← hl1340.eq]
          replace hk8 := hk8.mono hle1339
          replace hs14 := hs14.mono hle1339
          replace hk20 := hk20.mono hle1339
          replace hs26 := hs26.mono hle1339
          replace hs761 := hs761.mono hle1339
          replace hk964 := hk964.mono hle1339
          refine ewp_seq ?_
          refine ewp_region ?_
          refine el_val (v := (Value.bool (decide ((p22.length : Int) < (p22.length : Int))))) (wanted_n rfl) rfl rfl (run_pev (v := (Value.bool (decide ((p22.length : Int) < (p22.length : Int))))) rfl) ?_
          refine el_nil ?_
          refine ewp_seq ?_
          refine ewp_cond_f rfl (nlt_self _) ?_
          refine ewp_exit ?_
          exact ⟨s1337, hfin1429, f1338, A1341, n1342, c1343, cur1344, A1346, n1347, c1348, cur1349, A1351, n1352, c1353, cur1354, A1356, n1357, c1358, cur1359, hle1339, hk1345, hk1350, hk1355, hk1360, ⟨rfl, rfl, rfl, rfl, rfl, trivial⟩, hw⟩
      · rintro ρ1431 w1432 ⟨s1337, rfl, f1338, A1341, n1342, c1343, cur1344, A1346, n1347, c1348, cur1349, A1351, n1352, c1353, cur1354, A1356, n1357, c1358, cur1359, hle1339, hk1345, hk1350, hk1355, hk1360, hl1340, hw⟩
        replace h := on_go h
        first | refine ewp_live hl1340 fun ρ1433 => ?_ | rw [← hl1340.eq]
        replace hk8 := hk8.mono hle1339
        replace hs14 := hs14.mono hle1339
        replace hk20 := hk20.mono hle1339
        replace hs26 := hs26.mono hle1339
        replace hs761 := hs761.mono hle1339
        replace hk964 := hk964.mono hle1339
        refine ewp_seq ?_
        refine ewp_region ?_
        refine el_val (v := (Value.pointer (some ⟨b750, 0, none⟩))) (wanted_n rfl) rfl rfl (run_load1 (ad := ⟨b748, 0, none⟩) ta69 rfl (wd_cell 12 hw rfl rfl)) ?_
        obtain ⟨x1434, hx1435, h⟩ := bind_some h
        replace hw := hw.front5
        replace hw := hw.front5
        replace hw := hw.front13
        refine el_call (wanted_n rfl) rfl rfl (run_call (vals := (List.toArray [(Value.pointer (some ⟨b750, 0, none⟩))])) rfl cl62 rfl) (mend_solver_bound.calls hw hk1355 hs761 hk964 hx1435) ?_
        rintro _ w1438 ⟨f1436, hle1437, rfl, hw⟩
        replace hk8 := hk8.mono hle1437
        replace hs14 := hs14.mono hle1437
        replace hk20 := hk20.mono hle1437
        replace hs26 := hs26.mono hle1437
        replace hs761 := hs761.mono hle1437
        replace hk964 := hk964.mono hle1437
        replace hk1345 := hk1345.mono hle1437
        replace hk1350 := hk1350.mono hle1437
        replace hk1355 := hk1355.mono hle1437
        replace hk1360 := hk1360.mono hle1437
        refine el_val (v := (Value.int .i64 x1434)) (wanted_n rfl) rfl rfl (run_pev (v := (Value.int .i64 x1434)) rfl) ?_
        refine el_nil ?_
        refine ewp_seq ?_
        obtain ⟨c1777, hc1778, h⟩ := bind_some h
        refine ewp_M (fun ρ' w' => ∃ s1753, c1777 = .go s1753 ∧ ∃ (f1754 : HP) (A1757 : Option Addr) (n1758 : Nat) (c1759 : Nat) (cur1760 : Array Value) (A1762 : Option Addr) (n1763 : Nat) (c1764 : Nat) (cur1765 : Array Value) (A1767 : Option Addr) (n1768 : Nat) (c1769 : Nat) (cur1770 : Array Value) (A1772 : Option Addr) (n1773 : Nat) (c1774 : Nat) (cur1775 : Array Value), HP.le f1436 f1754 ∧ ArrOk f1754 (fInt .i64) A1757 n1758 c1759 cur1760 s1753.1 ∧ ArrOk f1754 (fInt .i64) A1762 n1763 c1764 cur1765 s1753.2.1 ∧ ArrOk f1754 fBool A1767 n1768 c1769 cur1770 s1753.2.2.1 ∧ ArrOk f1754 (fInt .i64) A1772 n1773 c1774 cur1775 s1753.2.2.2.1 ∧ Live ρ' [(6, (Value.pointer (some ⟨b748, 0, none⟩))), (12, (Value.pointer (some ⟨b1300, 0, none⟩)))] ∧ Wd G w' f1754 (Arr A1757 c1759 cur1760 :: Arr A960 c962 cur963 :: Arr A1762 c1764 cur1765 :: Arr A1767 c1769 cur1770 :: Arr A4 c6 cur7 :: Arr A16 c18 cur19 :: Arr A1772 c1774 cur1775 :: Blk b750 (.cells (List.toArray [(Value.slice A1757 n1758 c1759), (Value.slice A758 n759 c760), (Value.slice A960 n961 c962)]) 73 (0, 0)) :: Blk b1300 (.cells (List.toArray [(Value.bool s1753.2.2.2.2)]) 4 (0, 0)) :: Blk b1297 (.cells (List.toArray [(Value.slice A1772 n1773 c1774)]) 22 (0, 0)) :: Blk b1293 (.cells (List.toArray [(Value.slice A1762 n1763 c1764)]) 22 (0, 0)) :: Blk b1280 (.cells (List.toArray [(Value.slice A1767 n1768 c1769)]) 88 (0, 0)) :: Blk b1 (.cells (List.toArray [(Value.slice A4 n5 c6), (Value.slice A11 n12 c13), (Value.slice A16 n17 c18)]) 73 (0, 0)) :: Blk b748 (.cells (List.toArray [(Value.pointer (some ⟨b750, 0, none⟩))]) 69 (0, 0)) :: L)) (fun ρ' w' => ∃ x_, c1777 = .out x_ ∧ (x_ = r → RetPost Try.prog Try.f41 (mend_solver_with.R G f L b1 A4 n5 c6 cur7 A11 n12 c13 A16 n17 c18 cur19 A23 n24 c25 p3 p10 p15 p22 r) .ret ρ' w')) noX ?_ ?_ ?_ ?_
        · refine ewp_block ?_
          replace hw := hw.front8
          replace hw := hw.front7
          replace hw := hw.front7
          replace hw := hw.front7
          replace hw := hw.front7
          replace hw := hw.front7
          replace hw := hw.front7
          refine ewp_iter (fun (s1584 : List Int × List Int × List Bool × List Int × Bool) ρ' w' => ∃ (f1585 : HP) (A1588 : Option Addr) (n1589 : Nat) (c1590 : Nat) (cur1591 : Array Value) (A1593 : Option Addr) (n1594 : Nat) (c1595 : Nat) (cur1596 : Array Value) (A1598 : Option Addr) (n1599 : Nat) (c1600 : Nat) (cur1601 : Array Value) (A1603 : Option Addr) (n1604 : Nat) (c1605 : Nat) (cur1606 : Array Value), HP.le f1436 f1585 ∧ ArrOk f1585 (fInt .i64) A1588 n1589 c1590 cur1591 s1584.1 ∧ ArrOk f1585 (fInt .i64) A1593 n1594 c1595 cur1596 s1584.2.1 ∧ ArrOk f1585 fBool A1598 n1599 c1600 cur1601 s1584.2.2.1 ∧ ArrOk f1585 (fInt .i64) A1603 n1604 c1605 cur1606 s1584.2.2.2.1 ∧ Live ρ' [(6, (Value.pointer (some ⟨b748, 0, none⟩))), (9, (Value.pointer (some ⟨b1280, 0, none⟩))), (11, (Value.pointer (some ⟨b1297, 0, none⟩))), (12, (Value.pointer (some ⟨b1300, 0, none⟩))), (13, (Value.func (.func 61) #[] #[(Value.pointer (some ⟨b748, 0, none⟩)), (Value.pointer (some ⟨b1293, 0, none⟩)), (Value.pointer (some ⟨b1300, 0, none⟩)), (Value.pointer (some ⟨b1280, 0, none⟩)), (Value.pointer (some ⟨b1297, 0, none⟩))])), (16, (Value.int .i64 x1434))] ∧ Wd G w' f1585 (Arr A1588 c1590 cur1591 :: Arr A960 c962 cur963 :: Arr A1593 c1595 cur1596 :: Arr A1598 c1600 cur1601 :: Arr A4 c6 cur7 :: Arr A16 c18 cur19 :: Arr A1603 c1605 cur1606 :: Blk b750 (.cells (List.toArray [(Value.slice A1588 n1589 c1590), (Value.slice A758 n759 c760), (Value.slice A960 n961 c962)]) 73 (0, 0)) :: Blk b1300 (.cells (List.toArray [(Value.bool s1584.2.2.2.2)]) 4 (0, 0)) :: Blk b1297 (.cells (List.toArray [(Value.slice A1603 n1604 c1605)]) 22 (0, 0)) :: Blk b1293 (.cells (List.toArray [(Value.slice A1593 n1594 c1595)]) 22 (0, 0)) :: Blk b1280 (.cells (List.toArray [(Value.slice A1598 n1599 c1600)]) 88 (0, 0)) :: Blk b1 (.cells (List.toArray [(Value.slice A4 n5 c6), (Value.slice A11 n12 c13), (Value.slice A16 n17 c18)]) 73 (0, 0)) :: Blk b748 (.cells (List.toArray [(Value.pointer (some ⟨b750, 0, none⟩))]) 69 (0, 0)) :: L)) hc1778 ⟨f1436, A1351, n1352, c1353, cur1354, A1341, n1342, c1343, cur1344, A1346, n1347, c1348, cur1349, A1356, n1357, c1358, cur1359, (HP.le_refl _), hk1355, hk1345, hk1350, hk1360, ⟨rfl, rfl, rfl, rfl, rfl, rfl, trivial⟩, hw⟩ ?_
          rintro s1584 ct1783 ρ1781 w1782 h ⟨f1585, A1588, n1589, c1590, cur1591, A1593, n1594, c1595, cur1596, A1598, n1599, c1600, cur1601, A1603, n1604, c1605, cur1606, hle1586, hk1592, hk1597, hk1602, hk1607, hl1587, hw⟩
          unfold mend_solver_with_b10 at h
          first | refine ewp_live hl1587 fun ρ1784 => ?_ | rw [← hl1587.eq]
          replace hk8 := hk8.mono hle1586
          replace hs14 := hs14.mono hle1586
          replace hk20 := hk20.mono hle1586
          replace hs26 := hs26.mono hle1586
          replace hs761 := hs761.mono hle1586
          replace hk964 := hk964.mono hle1586
          refine ewp_seq ?_
          refine ewp_seq ?_
          obtain ⟨s1790, hc1794, h⟩ := bind_some h
          refine ewp_N (fun ρ' w' => ∃ (f1791 : HP), HP.le f1585 f1791 ∧ Live ρ' [(6, (Value.pointer (some ⟨b748, 0, none⟩))), (9, (Value.pointer (some ⟨b1280, 0, none⟩))), (11, (Value.pointer (some ⟨b1297, 0, none⟩))), (12, (Value.pointer (some ⟨b1300, 0, none⟩))), (13, (Value.func (.func 61) #[] #[(Value.pointer (some ⟨b748, 0, none⟩)), (Value.pointer (some ⟨b1293, 0, none⟩)), (Value.pointer (some ⟨b1300, 0, none⟩)), (Value.pointer (some ⟨b1280, 0, none⟩)), (Value.pointer (some ⟨b1297, 0, none⟩))])), (16, (Value.int .i64 x1434)), (92, (Value.bool s1790))] ∧ Wd G w' f1791 (Arr A1588 c1590 cur1591 :: Arr A960 c962 cur963 :: Arr A1593 c1595 cur1596 :: Arr A1598 c1600 cur1601 :: Arr A4 c6 cur7 :: Arr A16 c18 cur19 :: Arr A1603 c1605 cur1606 :: Blk b750 (.cells (List.toArray [(Value.slice A1588 n1589 c1590), (Value.slice A758 n759 c760), (Value.slice A960 n961 c962)]) 73 (0, 0)) :: Blk b1300 (.cells (List.toArray [(Value.bool s1584.2.2.2.2)]) 4 (0, 0)) :: Blk b1297 (.cells (List.toArray [(Value.slice A1603 n1604 c1605)]) 22 (0, 0)) :: Blk b1293 (.cells (List.toArray [(Value.slice A1593 n1594 c1595)]) 22 (0, 0)) :: Blk b1280 (.cells (List.toArray [(Value.slice A1598 n1599 c1600)]) 88 (0, 0)) :: Blk b1 (.cells (List.toArray [(Value.slice A4 n5 c6), (Value.slice A11 n12 c13), (Value.slice A16 n17 c18)]) 73 (0, 0)) :: Blk b748 (.cells (List.toArray [(Value.pointer (some ⟨b750, 0, none⟩))]) 69 (0, 0)) :: L)) ?_ ?_
          · replace h := hc1794
            refine ewp_region ?_
            refine el_val (v := (Value.slice A1603 n1604 c1605)) (wanted_n rfl) rfl rfl (run_load1 (ad := ⟨b1297, 0, none⟩) ta22 rfl (wd_cell 9 hw rfl rfl)) ?_
            refine el_val (v := (Value.int .i64 (s1584.2.2.2.1.length : Int))) (wanted_n rfl) rfl rfl (run_lenS te22 rfl hk1607.len) ?_
            refine el_val (v := (Value.bool (decide ((s1584.2.2.2.1.length : Int) > 0)))) (wanted_n rfl) rfl rfl (run_pev (v := (Value.bool (decide ((s1584.2.2.2.1.length : Int) > 0)))) rfl) ?_
            refine el_val (v := (Value.bool (decide ((s1584.2.2.2.1.length : Int) > 0)))) (wanted_n rfl) rfl rfl (run_pev (v := (Value.bool (decide ((s1584.2.2.2.1.length : Int) > 0)))) rfl) ?_
            rcases Bool.eq_false_or_eq_true (decide ((s1584.2.2.2.1.length : Int) > 0)) with hb1795 | hb1795
            · replace h := ifb_t hb1795 h
              refine el_val (v := (Value.bool s1584.2.2.2.2)) (wanted_y rfl rfl rfl hb1795) rfl rfl (run_load1 (ad := ⟨b1300, 0, none⟩) ta4 rfl (wd_cell 8 hw rfl rfl)) ?_
              refine el_val (v := (Value.bool s1584.2.2.2.2)) (wanted_n rfl) rfl rfl (run_pick_t rfl hb1795 rfl) ?_
              refine el_nil ?_
              obtain rfl := Option.some.inj h
              exact ⟨f1585, (HP.le_refl _), ⟨rfl, rfl, rfl, rfl, rfl, rfl, rfl, trivial⟩, hw⟩
            · replace h := ifb_f hb1795 h
              refine el_pass (wanted_f rfl rfl rfl hb1795) rfl rfl ?_
              refine el_val (v := (Value.bool false)) (wanted_n rfl) rfl rfl (run_pick_f rfl hb1795 rfl) ?_
              refine el_nil ?_
              obtain rfl := Option.some.inj h
              exact ⟨f1585, (HP.le_refl _), ⟨rfl, rfl, rfl, rfl, rfl, rfl, rfl, trivial⟩, hw⟩
          · rintro ρ1796 w1797 ⟨f1791, hle1792, hl1793, hw⟩
            first | refine ewp_live hl1793 fun ρ1798 => ?_ | rw [← hl1793.eq]
            replace hk8 := hk8.mono hle1792
            replace hs14 := hs14.mono hle1792
            replace hk20 := hk20.mono hle1792
            replace hs26 := hs26.mono hle1792
            replace hs761 := hs761.mono hle1792
            replace hk964 := hk964.mono hle1792
            replace hk1592 := hk1592.mono hle1792
            replace hk1597 := hk1597.mono hle1792
            replace hk1602 := hk1602.mono hle1792
            replace hk1607 := hk1607.mono hle1792
            refine ewp_cond s1790 rfl (fun hb1799 => ?_) (fun hb1799 => ?_)
            · replace h := ifb_t hb1799 h
              refine ewp_skip ?_
              refine ewp_block ?_
              refine ewp_seq ?_
              refine ewp_region ?_
              refine el_val (v := (Value.slice A1603 n1604 c1605)) (wanted_n rfl) rfl rfl (run_load1 (ad := ⟨b1297, 0, none⟩) ta22 rfl (wd_cell 9 hw rfl rfl)) ?_
              obtain ⟨x1800, hx1801, h⟩ := bind_some h
              obtain ⟨b1802, of1803, es1804, hA1805, hc1806, he1807⟩ := arr_el hk1607 hx1801
              obtain rfl : es1804 = _ := he1807
              refine el_val (v := (Value.pointer (some (eAdr A1603 (((0 : Int)).toNat * 1))))) (wanted_n rfl) rfl rfl (run_idx te22 ts3 rfl hk1607.len rfl hx1801 hA1805) ?_
              refine el_val (v := (Value.int .i64 x1800)) (wanted_n rfl) rfl rfl (run_load1 (ad := (eAdr A1603 (((0 : Int)).toNat * 1))) ta3 rfl (wd_arr 6 hw rfl hA1805 (hc1806 0 _ rfl))) ?_
              refine el_val (v := (Value.int .i64 x1800)) (wanted_n rfl) rfl rfl (run_pev (v := (Value.int .i64 x1800)) rfl) ?_
              refine el_nil ?_
              refine ewp_seq ?_
              refine ewp_region ?_
              refine el_val (v := (Value.slice A1603 n1604 c1605)) (wanted_n rfl) rfl rfl (run_load1 (ad := ⟨b1297, 0, none⟩) ta22 rfl (wd_cell 9 hw rfl rfl)) ?_
              obtain ⟨x1808, hx1809, h⟩ := bind_some h
              replace hw := hw.front6
              have hlen_ := hk1607.len
              have hle_ := hk1607.le
              obtain ⟨cur1810, hk1811, hw⟩ := arr_cut hk1607 hx1809 hw
              refine el_val (v := (Value.slice (cutA A1603 1 ((1 : Int)).toNat c1605) (((s1584.2.2.2.1.length : Int)).toNat - ((1 : Int)).toNat) (c1605 - ((1 : Int)).toNat))) (wanted_n rfl) rfl rfl (run_cut (l := (1 : Int)) (k := (s1584.2.2.2.1.length : Int)) te22 ts3 rfl hlen_ hle_ hx1809 (.inr ⟨_, rfl, rfl⟩) (.inl ⟨rfl, rfl⟩)) ?_
              replace hw := hw.front9
              refine el_exu (wanted_n rfl) rfl (run_blkSetE (new := List.toArray [(Value.slice (cutA A1603 1 ((1 : Int)).toNat c1605) (((s1584.2.2.2.1.length : Int)).toNat - ((1 : Int)).toNat) (c1605 - ((1 : Int)).toNat))]) hw rfl rfl ts22 rfl rfl rfl) ?_
              rintro w1812 hw
              refine el_nil ?_
              refine ewp_seq ?_
              refine ewp_region ?_
              refine el_val (v := (Value.slice A1598 n1599 c1600)) (wanted_n rfl) rfl rfl (run_load1 (ad := ⟨b1280, 0, none⟩) ta88 rfl (wd_cell 11 hw rfl rfl)) ?_
              refine el_val (v := (Value.int .i64 x1800)) (wanted_n rfl) rfl rfl (run_pev (v := (Value.int .i64 x1800)) rfl) ?_
              obtain ⟨x1813, hx1814, h⟩ := bind_some h
              obtain ⟨b1815, of1816, es1817, hA1818, hc1819, he1820⟩ := arr_el hk1602 hx1814
              obtain rfl : es1817 = _ := he1820
              refine el_val (v := (Value.pointer (some (eAdr A1598 ((x1800).toNat * 1))))) (wanted_n rfl) rfl rfl (run_idx te88 ts4 rfl hk1602.len rfl hx1814 hA1818) ?_
              replace hw := hw.front5
              refine el_exu (wanted_n rfl) rfl (run_arrSet (E := fBool) (y := false) hw hk1602 hx1814 rfl rfl ts4 rfl rfl) ?_
              rintro w1823 ⟨cur1821, hk1822, hw⟩
              refine el_nil ?_
              refine ewp_seq ?_
              refine ewp_seq ?_
              refine ewp_region ?_
              refine el_val (v := (Value.pointer (some ⟨b750, 0, none⟩))) (wanted_n rfl) rfl rfl (run_load1 (ad := ⟨b748, 0, none⟩) ta69 rfl (wd_cell 13 hw rfl rfl)) ?_
              refine el_val (v := (Value.pointer (some ⟨b750, 0, none⟩))) (wanted_n rfl) rfl rfl (run_pev (v := (Value.pointer (some ⟨b750, 0, none⟩))) rfl) ?_
              refine el_val (v := (Value.pointer (some ⟨b750, 0, none⟩))) (wanted_n rfl) rfl rfl (run_fieldAddr tf73_0 (o := 0) rfl) ?_
              refine el_val (v := (Value.slice A1588 n1589 c1590)) (wanted_n rfl) rfl rfl (run_load1 (ad := ⟨b750, 0, none⟩) ta22 rfl (wd_cell 8 hw rfl rfl)) ?_
              refine el_val (v := (Value.int .i64 x1800)) (wanted_n rfl) rfl rfl (run_pev (v := (Value.int .i64 x1800)) rfl) ?_
              obtain ⟨x1824, hx1825, h⟩ := bind_some h
              obtain ⟨b1826, of1827, es1828, hA1829, hc1830, he1831⟩ := arr_el hk1592 hx1825
              obtain rfl : es1828 = _ := he1831
              refine el_val (v := (Value.pointer (some (eAdr A1588 ((x1800).toNat * 1))))) (wanted_n rfl) rfl rfl (run_idx te22 ts3 rfl hk1592.len rfl hx1825 hA1829) ?_
              refine el_val (v := (Value.int .i64 x1824)) (wanted_n rfl) rfl rfl (run_load1 (ad := (eAdr A1588 ((x1800).toNat * 1))) ta3 rfl (wd_arr 3 hw rfl hA1829 (hc1830 0 _ rfl))) ?_
              refine el_val (v := (Value.int .i64 x1434)) (wanted_n rfl) rfl rfl (run_pev (v := (Value.int .i64 x1434)) rfl) ?_
              refine el_val (v := (Value.bool (decide (x1824 > x1434)))) (wanted_n rfl) rfl rfl (run_pev (v := (Value.bool (decide (x1824 > x1434)))) rfl) ?_
              refine el_nil ?_
              refine ewp_cond (decide (x1824 > x1434)) rfl (fun hb1832 => ?_) (fun hb1832 => ?_)
              · replace h := ifb_t hb1832 h
                refine ewp_seq ?_
                refine ewp_region ?_
                refine el_val (v := (Value.pointer none)) (wanted_n rfl) rfl rfl (run_pev (v := (Value.pointer none)) rfl) ?_
                refine el_val (v := (Value.bool false)) (wanted_n rfl) rfl rfl (run_pev (v := (Value.bool false)) rfl) ?_
                refine el_nil ?_
                refine ewp_ret ?_
                replace hw := hw.drop_0
                replace hw := hw.drop_0
                replace hw := hw.drop_0
                replace hw := hw.drop_0
                replace hw := hw.drop_0
                replace hw := hw.drop_0
                replace hw := hw.drop_2
                replace hw := hw.drop_2
                replace hw := hw.drop_2
                replace hw := hw.drop_2
                replace hw := hw.drop_3
                replace hw := hw.front2
                obtain rfl := Option.some.inj h
                refine ⟨_, rfl, fun hf => ⟨_, hf, fun hr => ?_⟩⟩
                subst hr
                exact ⟨_, res2 rfl, f1791, (Value.pointer none), (HP.le_trans (HP.le_trans (HP.le_trans (HP.le_trans (HP.le_trans hle746 hle958) hle1339) hle1437) hle1586) hle1792), rfl, rfl, hw⟩
              · replace h := ifb_f hb1832 h
                refine ewp_skip ?_
                refine ewp_seq ?_
                refine ewp_region ?_
                refine el_val (v := (Value.pointer (some ⟨b750, 0, none⟩))) (wanted_n rfl) rfl rfl (run_load1 (ad := ⟨b748, 0, none⟩) ta69 rfl (wd_cell 13 hw rfl rfl)) ?_
                refine el_val (v := (Value.pointer (some ⟨b750, 0, none⟩))) (wanted_n rfl) rfl rfl (run_pev (v := (Value.pointer (some ⟨b750, 0, none⟩))) rfl) ?_
                refine el_val (v := (Value.pointer (some ⟨b750, 2, none⟩))) (wanted_n rfl) rfl rfl (run_fieldAddr tf73_2 (o := 0) rfl) ?_
                refine el_val (v := (Value.slice A960 n961 c962)) (wanted_n rfl) rfl rfl (run_load1 (ad := ⟨b750, 2, none⟩) ta35 rfl (wd_cell 8 hw rfl rfl)) ?_
                refine el_val (v := (Value.int .i64 x1800)) (wanted_n rfl) rfl rfl (run_pev (v := (Value.int .i64 x1800)) rfl) ?_
                obtain ⟨x1833, hx1834, h⟩ := bind_some h
                obtain ⟨b1835, of1836, es1837, hA1838, hc1839, he1840⟩ := arr_el hk964 hx1834
                obtain ⟨A1841, n1842, c1843, rfl, hs1844⟩ := he1840
                refine el_val (v := (Value.pointer (some (eAdr A960 ((x1800).toNat * 1))))) (wanted_n rfl) rfl rfl (run_idx te35 ts23 rfl hk964.len rfl hx1834 hA1838) ?_
                refine el_val (v := (Value.slice A1841 n1842 c1843)) (wanted_n rfl) rfl rfl (run_load1 (ad := (eAdr A960 ((x1800).toNat * 1))) ta23 rfl (wd_arr 4 hw rfl hA1838 (hc1839 0 _ rfl))) ?_
                refine el_val (v := (Value.int .i64 (x1833.length : Int))) (wanted_n rfl) rfl rfl (run_lenS te23 rfl hs1844.len) ?_
                refine el_val (v := (Value.int .i64 0)) (wanted_n rfl) rfl rfl (run_pev (v := (Value.int .i64 0)) rfl) ?_
                refine el_nil ?_
                obtain ⟨c1929, hc1930, h⟩ := bind_some h
                refine ewp_M (fun ρ' w' => ∃ s1877, c1929 = .go s1877 ∧ ∃ (f1878 : HP) (A1881 : Option Addr) (n1882 : Nat) (c1883 : Nat) (cur1884 : Array Value) (A1886 : Option Addr) (n1887 : Nat) (c1888 : Nat) (cur1889 : Array Value) (A1891 : Option Addr) (n1892 : Nat) (c1893 : Nat) (cur1894 : Array Value) (A1896 : Option Addr) (n1897 : Nat) (c1898 : Nat) (cur1899 : Array Value), HP.le f1791 f1878 ∧ ArrOk f1878 fBool A1881 n1882 c1883 cur1884 s1877.1 ∧ ArrOk f1878 (fInt .i64) A1886 n1887 c1888 cur1889 s1877.2.1 ∧ ArrOk f1878 (fInt .i64) A1891 n1892 c1893 cur1894 s1877.2.2.1 ∧ ArrOk f1878 (fInt .i64) A1896 n1897 c1898 cur1899 s1877.2.2.2.1 ∧ Live ρ' [(6, (Value.pointer (some ⟨b748, 0, none⟩))), (9, (Value.pointer (some ⟨b1280, 0, none⟩))), (11, (Value.pointer (some ⟨b1297, 0, none⟩))), (12, (Value.pointer (some ⟨b1300, 0, none⟩))), (13, (Value.func (.func 61) #[] #[(Value.pointer (some ⟨b748, 0, none⟩)), (Value.pointer (some ⟨b1293, 0, none⟩)), (Value.pointer (some ⟨b1300, 0, none⟩)), (Value.pointer (some ⟨b1280, 0, none⟩)), (Value.pointer (some ⟨b1297, 0, none⟩))])), (16, (Value.int .i64 x1434))] ∧ Wd G w' f1878 (Arr A1881 c1883 cur1884 :: Arr A1886 c1888 cur1889 :: Arr A1891 c1893 cur1894 :: Arr A960 c962 cur963 :: Arr A1896 c1898 cur1899 :: Arr A4 c6 cur7 :: Arr A16 c18 cur19 :: Blk b1297 (.cells (List.toArray [(Value.slice A1886 n1887 c1888)]) 22 (0, 0)) :: Blk b750 (.cells (List.toArray [(Value.slice A1891 n1892 c1893), (Value.slice A758 n759 c760), (Value.slice A960 n961 c962)]) 73 (0, 0)) :: Blk b1300 (.cells (List.toArray [(Value.bool s1877.2.2.2.2)]) 4 (0, 0)) :: Blk b1293 (.cells (List.toArray [(Value.slice A1896 n1897 c1898)]) 22 (0, 0)) :: Blk b1280 (.cells (List.toArray [(Value.slice A1881 n1882 c1883)]) 88 (0, 0)) :: Blk b1 (.cells (List.toArray [(Value.slice A4 n5 c6), (Value.slice A11 n12 c13), (Value.slice A16 n17 c18)]) 73 (0, 0)) :: Blk b748 (.cells (List.toArray [(Value.pointer (some ⟨b750, 0, none⟩))]) 69 (0, 0)) :: L)) noE noX ?_ ?_ ?_ ?_
                · refine ewp_block ?_
                  replace hw := hw.front7
                  replace hw := hw.front7
                  replace hw := hw.front7
                  replace hw := hw.front7
                  replace hw := hw.front7
                  replace hw := hw.front7
                  replace hw := hw.front6
                  refine ewp_forC (fun (i1931 : Nat) (s1877 : List Bool × List Int × List Int × List Int × Bool) ρ' w' => ∃ (f1878 : HP) (A1881 : Option Addr) (n1882 : Nat) (c1883 : Nat) (cur1884 : Array Value) (A1886 : Option Addr) (n1887 : Nat) (c1888 : Nat) (cur1889 : Array Value) (A1891 : Option Addr) (n1892 : Nat) (c1893 : Nat) (cur1894 : Array Value) (A1896 : Option Addr) (n1897 : Nat) (c1898 : Nat) (cur1899 : Array Value), HP.le f1791 f1878 ∧ ArrOk f1878 fBool A1881 n1882 c1883 cur1884 s1877.1 ∧ ArrOk f1878 (fInt .i64) A1886 n1887 c1888 cur1889 s1877.2.1 ∧ ArrOk f1878 (fInt .i64) A1891 n1892 c1893 cur1894 s1877.2.2.1 ∧ ArrOk f1878 (fInt .i64) A1896 n1897 c1898 cur1899 s1877.2.2.2.1 ∧ Live ρ' [(6, (Value.pointer (some ⟨b748, 0, none⟩))), (9, (Value.pointer (some ⟨b1280, 0, none⟩))), (11, (Value.pointer (some ⟨b1297, 0, none⟩))), (12, (Value.pointer (some ⟨b1300, 0, none⟩))), (13, (Value.func (.func 61) #[] #[(Value.pointer (some ⟨b748, 0, none⟩)), (Value.pointer (some ⟨b1293, 0, none⟩)), (Value.pointer (some ⟨b1300, 0, none⟩)), (Value.pointer (some ⟨b1280, 0, none⟩)), (Value.pointer (some ⟨b1297, 0, none⟩))])), (16, (Value.int .i64 x1434)), (116, (Value.slice A1841 n1842 c1843)), (117, (Value.int .i64 (x1833.length : Int))), (118, (Value.int .i64 (i1931 : Int)))] ∧ Wd G w' f1878 (Arr A1881 c1883 cur1884 :: Arr A1886 c1888 cur1889 :: Arr A1891 c1893 cur1894 :: Arr A960 c962 cur963 :: Arr A1896 c1898 cur1899 :: Arr A4 c6 cur7 :: Arr A16 c18 cur19 :: Blk b1297 (.cells (List.toArray [(Value.slice A1886 n1887 c1888)]) 22 (0, 0)) :: Blk b750 (.cells (List.toArray [(Value.slice A1891 n1892 c1893), (Value.slice A758 n759 c760), (Value.slice A960 n961 c962)]) 73 (0, 0)) :: Blk b1300 (.cells (List.toArray [(Value.bool s1877.2.2.2.2)]) 4 (0, 0)) :: Blk b1293 (.cells (List.toArray [(Value.slice A1896 n1897 c1898)]) 22 (0, 0)) :: Blk b1280 (.cells (List.toArray [(Value.slice A1881 n1882 c1883)]) 88 (0, 0)) :: Blk b1 (.cells (List.toArray [(Value.slice A4 n5 c6), (Value.slice A11 n12 c13), (Value.slice A16 n17 c18)]) 73 (0, 0)) :: Blk b748 (.cells (List.toArray [(Value.pointer (some ⟨b750, 0, none⟩))]) 69 (0, 0)) :: L)) hc1930 ⟨f1791, A1598, n1599, c1600, cur1821, (cutA A1603 1 ((1 : Int)).toNat c1605), (((s1584.2.2.2.1.length : Int)).toNat - ((1 : Int)).toNat), (c1605 - ((1 : Int)).toNat), cur1810, A1588, n1589, c1590, cur1591, A1593, n1594, c1595, cur1596, (HP.le_refl _), hk1822, hk1811, hk1592, hk1597, ⟨rfl, rfl, rfl, rfl, rfl, rfl, rfl, rfl, rfl, trivial⟩, hw⟩ ?_ ?_
                  · rintro i1931 x1932 s1877 ct1935 ρ1933 w1934 hx h ⟨f1878, A1881, n1882, c1883, cur1884, A1886, n1887, c1888, cur1889, A1891, n1892, c1893, cur1894, A1896, n1897, c1898, cur1899, hle1879, hk1885, hk1890, hk1895, hk1900, hl1880, hw⟩
                    unfold mend_solver_with_b11 at h
                    first | refine ewp_live hl1880 fun ρ1936 => ?_ | rw [← hl1880.eq]
                    replace hk8 := hk8.mono hle1879
                    replace hs14 := hs14.mono hle1879
                    replace hk20 := hk20.mono hle1879
                    replace hs26 := hs26.mono hle1879
                    replace hs761 := hs761.mono hle1879
                    replace hk964 := hk964.mono hle1879
                    replace hs1844 := hs1844.mono hle1879
                    refine ewp_seq ?_
                    refine ewp_region ?_
                    refine el_val (v := (Value.bool (decide ((i1931 : Int) < (x1833.length : Int))))) (wanted_n rfl) rfl rfl (run_pev (v := (Value.bool (decide ((i1931 : Int) < (x1833.length : Int))))) rfl) ?_
                    refine el_nil ?_
                    refine ewp_seq ?_
                    refine ewp_cond_t rfl (lt_len hx) ?_
                    refine ewp_skip ?_
                    refine ewp_seq ?_
                    refine ewp_block ?_
                    refine ewp_seq ?_
                    refine ewp_region ?_
                    obtain ⟨b1937, of1938, es1939, hA1940, hc1941, he1942⟩ := sl_el hs1844 (idx_nat hx)
                    obtain rfl := fS_mend_Arc.op he1942
                    refine el_val (v := (Value.pointer (some (eAdr A1841 (((i1931 : Int)).toNat * 3))))) (wanted_n rfl) rfl rfl (run_idx te23 ts34 rfl hs1844.len rfl (idx_nat hx) hA1940) ?_
                    refine el_val (v := (Value.agg #[(Value.int .i64 x1932.From), (Value.int .i64 x1932.To), (Value.int .i64 x1932.Len)])) (wanted_n rfl) rfl rfl (run_loadN (ad := (eAdr A1841 (((i1931 : Int)).toNat * 3))) (cs := [(Value.int .i64 x1932.From), (Value.int .i64 x1932.To), (Value.int .i64 x1932.Len)]) ta34 ts34 rfl rfl (fz_cells hw hc1941)) ?_
                    refine el_exv (wanted_n rfl) rfl rfl (run_allocE (cs := [(Value.int .i64 0), (Value.int .i64 0), (Value.int .i64 0)]) tz34 rfl hw) ?_
                    rintro w1945 _ ⟨b1943, rfl, hw⟩
                    refine el_exu (wanted_n rfl) rfl (run_blkSetE (new := List.toArray [(Value.int .i64 x1932.From), (Value.int .i64 x1932.To), (Value.int .i64 x1932.Len)]) hw rfl rfl ts34 rfl rfl rfl) ?_
                    rintro w1946 hw
                    refine el_nil ?_
                    refine ewp_region ?_
                    refine el_val (v := (Value.func (.func 61) #[] #[(Value.pointer (some ⟨b748, 0, none⟩)), (Value.pointer (some ⟨b1293, 0, none⟩)), (Value.pointer (some ⟨b1300, 0, none⟩)), (Value.pointer (some ⟨b1280, 0, none⟩)), (Value.pointer (some ⟨b1297, 0, none⟩))])) (wanted_n rfl) rfl rfl (run_pev (v := (Value.func (.func 61) #[] #[(Value.pointer (some ⟨b748, 0, none⟩)), (Value.pointer (some ⟨b1293, 0, none⟩)), (Value.pointer (some ⟨b1300, 0, none⟩)), (Value.pointer (some ⟨b1280, 0, none⟩)), (Value.pointer (some ⟨b1297, 0, none⟩))])) rfl) ?_
                    refine el_val (v := (Value.agg #[(Value.int .i64 x1932.From), (Value.int .i64 x1932.To), (Value.int .i64 x1932.Len)])) (wanted_n rfl) rfl rfl (run_loadN (ad := ⟨b1943, 0, none⟩) (cs := [(Value.int .i64 x1932.From), (Value.int .i64 x1932.To), (Value.int .i64 x1932.Len)]) ta34 ts34 rfl rfl (wd_cells 0 hw rfl rfl)) ?_
                    obtain ⟨x1947, hx1948, h⟩ := bind_some h
                    replace hw := hw.front2
                    replace hw := hw.front8
                    replace hw := hw.front3
                    replace hw := hw.front12
                    replace hw := hw.front11
                    replace hw := hw.front8
                    replace hw := hw.front12
                    replace hw := hw.front9
                    replace hw := hw.front9
                    replace hw := hw.front12
                    replace hw := hw.front14
                    refine el_call (wanted_n rfl) rfl rfl (run_call (vals := (List.toArray [(Value.agg #[(Value.int .i64 x1932.From), (Value.int .i64 x1932.To), (Value.int .i64 x1932.Len)]), (Value.pointer (some ⟨b748, 0, none⟩)), (Value.pointer (some ⟨b1293, 0, none⟩)), (Value.pointer (some ⟨b1300, 0, none⟩)), (Value.pointer (some ⟨b1280, 0, none⟩)), (Value.pointer (some ⟨b1297, 0, none⟩))])) rfl cl61 rfl) (mend_solver_with_1_v2.calls hw hk1895 hs761 hk964 hk1900 hk1885 hk1890 hx1948) ?_
                    rintro _ w1962 ⟨f1949, cur1952, cur1954, cur1956, A1959, n1960, c1961, cur1958, hle1950, rfl, hk1951, hk1953, hk1955, hk1957, hw⟩
                    replace hk8 := hk8.mono hle1950
                    replace hs14 := hs14.mono hle1950
                    replace hk20 := hk20.mono hle1950
                    replace hs26 := hs26.mono hle1950
                    replace hs761 := hs761.mono hle1950
                    replace hk964 := hk964.mono hle1950
                    replace hs1844 := hs1844.mono hle1950
                    replace hc1941 := fun j v hv => hcell_le hle1950 (hc1941 j v hv)
                    refine el_nil ?_
                    refine ewp_region ?_
                    refine el_val (v := (Value.int .i64 (w64 ((i1931 : Int) + 1)))) (wanted_n rfl) rfl rfl (run_pev (v := (Value.int .i64 (w64 ((i1931 : Int) + 1)))) rfl) ?_
                    refine el_val (v := (Value.int .i64 (w64 ((i1931 : Int) + 1)))) (wanted_n rfl) rfl rfl (run_pev (v := (Value.int .i64 (w64 ((i1931 : Int) + 1)))) rfl) ?_
                    refine el_nil ?_
                    replace hw := hw.drop_11
                    replace hw := hw.front13
                    replace hw := hw.front8
                    replace hw := hw.front6
                    replace hw := hw.front8
                    replace hw := hw.front5
                    replace hw := hw.front10
                    replace hw := hw.front13
                    replace hw := hw.front13
                    replace hw := hw.front11
                    replace hw := hw.front11
                    replace hw := hw.front11
                    replace hw := hw.front13
                    replace hw := hw.front13
                    obtain rfl := Option.some.inj h
                    exact ⟨_, rfl, f1949, A1881, n1882, c1883, cur1956, A1959, n1960, c1961, cur1958, A1891, n1892, c1893, cur1952, A1896, n1897, c1898, cur1954, (HP.le_trans hle1879 hle1950), hk1955, hk1957, hk1951, hk1953, ⟨rfl, rfl, rfl, rfl, rfl, rfl, rfl, rfl, (congrArg (Value.int .i64) (succ_w64 hs1844.room hx)), trivial⟩, hw⟩
                  · rintro s1877 ρ1963 w1964 hfin1965 ⟨f1878, A1881, n1882, c1883, cur1884, A1886, n1887, c1888, cur1889, A1891, n1892, c1893, cur1894, A1896, n1897, c1898, cur1899, hle1879, hk1885, hk1890, hk1895, hk1900, hl1880, hw⟩
                    first | refine ewp_live hl1880 fun ρ1966 => ?_ | rw [← hl1880.eq]
                    replace hk8 := hk8.mono hle1879
                    replace hs14 := hs14.mono hle1879
                    replace hk20 := hk20.mono hle1879
                    replace hs26 := hs26.mono hle1879
                    replace hs761 := hs761.mono hle1879
                    replace hk964 := hk964.mono hle1879
                    replace hs1844 := hs1844.mono hle1879
                    refine ewp_seq ?_
                    refine ewp_region ?_
                    refine el_val (v := (Value.bool (decide ((x1833.length : Int) < (x1833.length : Int))))) (wanted_n rfl) rfl rfl (run_pev (v := (Value.bool (decide ((x1833.length : Int) < (x1833.length : Int))))) rfl) ?_
                    refine el_nil ?_
                    refine ewp_seq ?_
                    refine ewp_cond_f rfl (nlt_self _) ?_
                    refine ewp_exit ?_
                    exact ⟨s1877, hfin1965, f1878, A1881, n1882, c1883, cur1884, A1886, n1887, c1888, cur1889, A1891, n1892, c1893, cur1894, A1896, n1897, c1898, cur1899, hle1879, hk1885, hk1890, hk1895, hk1900, ⟨rfl, rfl, rfl, rfl, rfl, rfl, trivial⟩, hw⟩
                · rintro ρ1967 w1968 ⟨s1877, rfl, f1878, A1881, n1882, c1883, cur1884, A1886, n1887, c1888, cur1889, A1891, n1892, c1893, cur1894, A1896, n1897, c1898, cur1899, hle1879, hk1885, hk1890, hk1895, hk1900, hl1880, hw⟩
                  replace h := on_go h
                  first | refine ewp_live hl1880 fun ρ1969 => ?_ | rw [← hl1880.eq]
                  replace hk8 := hk8.mono hle1879
                  replace hs14 := hs14.mono hle1879
                  replace hk20 := hk20.mono hle1879
                  replace hs26 := hs26.mono hle1879
                  replace hs761 := hs761.mono hle1879
                  replace hk964 := hk964.mono hle1879
                  replace hs1844 := hs1844.mono hle1879
                  replace hw := hw.front9
                  replace hw := hw.front9
                  replace hw := hw.front3
                  replace hw := hw.front8
                  replace hw := hw.front8
                  replace hw := hw.front5
                  replace hw := hw.front8
                  replace hw := hw.front8
                  replace hw := hw.front8
                  obtain rfl := Option.some.inj h
                  exact ⟨_, rfl, f1878, A1891, n1892, c1893, cur1894, A1896, n1897, c1898, cur1899, A1881, n1882, c1883, cur1884, A1886, n1887, c1888, cur1889, (HP.le_trans (HP.le_trans hle1586 hle1792) hle1879), hk1895, hk1900, hk1885, hk1890, ⟨rfl, rfl, rfl, rfl, rfl, rfl, trivial⟩, hw⟩
                · exact fun _ _ h => h.elim
                · exact fun _ _ _ h => h.elim
            · replace h := ifb_f hb1799 h
              refine ewp_exit ?_
              obtain rfl := Option.some.inj h
              exact ⟨_, rfl, fun hf => ⟨_, hf, f1791, A1588, n1589, c1590, cur1591, A1593, n1594, c1595, cur1596, A1598, n1599, c1600, cur1601, A1603, n1604, c1605, cur1606, (HP.le_trans hle1586 hle1792), hk1592, hk1597, hk1602, hk1607, ⟨rfl, rfl, trivial⟩, hw⟩⟩
        · rintro ρ1970 w1971 ⟨s1753, rfl, f1754, A1757, n1758, c1759, cur1760, A1762, n1763, c1764, cur1765, A1767, n1768, c1769, cur1770, A1772, n1773, c1774, cur1775, hle1755, hk1761, hk1766, hk1771, hk1776, hl1756, hw⟩
          replace h := on_go h
          first | refine ewp_live hl1756 fun ρ1972 => ?_ | rw [← hl1756.eq]
          replace hk8 := hk8.mono hle1755
          replace hs14 := hs14.mono hle1755
          replace hk20 := hk20.mono hle1755
          replace hs26 := hs26.mono hle1755
          replace hs761 := hs761.mono hle1755
          replace hk964 := hk964.mono hle1755
          refine ewp_seq ?_
          refine ewp_draw (SW G f1754 (Arr A1757 c1759 cur1760 :: Arr A960 c962 cur963 :: Arr A1762 c1764 cur1765 :: Arr A1767 c1769 cur1770 :: Arr A4 c6 cur7 :: Arr A16 c18 cur19 :: Arr A1772 c1774 cur1775 :: Blk b750 (.cells (List.toArray [(Value.slice A1757 n1758 c1759), (Value.slice A758 n759 c760), (Value.slice A960 n961 c962)]) 73 (0, 0)) :: Blk b1300 (.cells (List.toArray [(Value.bool s1753.2.2.2.2)]) 4 (0, 0)) :: Blk b1297 (.cells (List.toArray [(Value.slice A1772 n1773 c1774)]) 22 (0, 0)) :: Blk b1293 (.cells (List.toArray [(Value.slice A1762 n1763 c1764)]) 22 (0, 0)) :: Blk b1280 (.cells (List.toArray [(Value.slice A1767 n1768 c1769)]) 88 (0, 0)) :: Blk b1 (.cells (List.toArray [(Value.slice A4 n5 c6), (Value.slice A11 n12 c13), (Value.slice A16 n17 c18)]) 73 (0, 0)) :: Blk b748 (.cells (List.toArray [(Value.pointer (some ⟨b750, 0, none⟩))]) 69 (0, 0)) :: L)) [] 3 mixed ?_
          replace hw := hw.drew
          have hS := SW.of hw
          refine et_first (i := 0) (v := (Value.pointer (some ⟨b750, 0, none⟩))) rfl (by kernel_rfl) (fun _ _ _ h => h) rfl rfl (.inl ⟨(wanted_n rfl), fun w9 ⟨f9, hl9, h9⟩ => run_load1 (ad := ⟨b748, 0, none⟩) ta69 rfl (wd_cell 13 h9 rfl rfl)⟩) hS ?_
          refine et_first (i := 1) (v := (Value.bool s1753.2.2.2.2)) rfl (by kernel_rfl) (fun _ _ _ h => h) rfl rfl (.inl ⟨(wanted_n rfl), fun w9 ⟨f9, hl9, h9⟩ => run_load1 (ad := ⟨b1300, 0, none⟩) ta4 rfl (wd_cell 8 h9 rfl rfl)⟩) hS ?_
          refine et_pure (i := 2) (v := (Value.pointer (some ⟨b750, 0, none⟩))) rfl (by kernel_rfl) (fun _ _ _ h => h) rfl rfl (.inl ⟨(wanted_n rfl), fun _ => run_pev (v := (Value.pointer (some ⟨b750, 0, none⟩))) rfl⟩) ?_
          refine et_tail rfl ?_
          refine ey_one (i := 3) (by kernel_rfl) ?_
          refine eo_val (v := (Value.bool s1753.2.2.2.2)) rfl (wanted_n rfl) rfl rfl (run_pev (v := (Value.bool s1753.2.2.2.2)) rfl) ?_
          refine ey_done rfl ?_
          refine ewp_ret ?_
          obtain ⟨f1973, hle1974, hs1975, hw⟩ := arr_freeze hk1761 hw
          replace hk8 := hk8.mono hle1974
          replace hs14 := hs14.mono hle1974
          replace hk20 := hk20.mono hle1974
          replace hs26 := hs26.mono hle1974
          replace hs761 := hs761.mono hle1974
          replace hk964 := hk964.mono hle1974
          replace hk1766 := hk1766.mono hle1974
          replace hk1771 := hk1771.mono hle1974
          replace hk1776 := hk1776.mono hle1974
          obtain ⟨f1976, hle1977, hs1978, hw⟩ := arr_freeze hk964 hw
          replace hk8 := hk8.mono hle1977
          replace hs14 := hs14.mono hle1977
          replace hk20 := hk20.mono hle1977
          replace hs26 := hs26.mono hle1977
          replace hs761 := hs761.mono hle1977
          replace hk1766 := hk1766.mono hle1977
          replace hk1771 := hk1771.mono hle1977
          replace hk1776 := hk1776.mono hle1977
          replace hs1975 := hs1975.mono hle1977
          replace hw := hw.front5
          obtain ⟨f1979, hle1980, hb1981, hw⟩ := wd_freezeB hw
          replace hk8 := hk8.mono hle1980
          replace hs14 := hs14.mono hle1980
          replace hk20 := hk20.mono hle1980
          replace hs26 := hs26.mono hle1980
          replace hs761 := hs761.mono hle1980
          replace hk1766 := hk1766.mono hle1980
          replace hk1771 := hk1771.mono hle1980
          replace hk1776 := hk1776.mono hle1980
          replace hs1975 := hs1975.mono hle1980
          replace hs1978 := hs1978.mono hle1980
          replace hw := hw.drop_0
          replace hw := hw.drop_0
          replace hw := hw.drop_2
          replace hw := hw.drop_2
          replace hw := hw.drop_2
          replace hw := hw.drop_2
          replace hw := hw.drop_2
          replace hw := hw.drop_3
          replace hw := hw.front2
          obtain rfl := Option.some.inj h
          exact ⟨_, res2 rfl, f1979, (Value.pointer (some ⟨b750, 0, none⟩)), (HP.le_trans (HP.le_trans (HP.le_trans (HP.le_trans (HP.le_trans (HP.le_trans (HP.le_trans hle746 hle958) hle1339) hle1437) hle1755) hle1974) hle1977) hle1980), rfl, ⟨_, _, _, _, rfl, hb1981, (fS_mend_solver.mk (x := (S_mend_solver.mk s1753.1 s744.2.1 s956)) hs1975 hs761 hs1978)⟩, hw⟩
        · rintro ρ1982 w1983 ⟨x1984, rfl, hq1985⟩
          replace h := on_out h
          obtain rfl := Option.some.inj h
          exact hq1985 rfl
        · exact fun _ _ _ h => h.elim
      · exact fun _ _ h => h.elim
      · exact fun _ _ _ h => h.elim
    · exact fun _ _ h => h.elim
    · exact fun _ _ _ h => h.elim
def mend_start_b2 (p1 : S_mend_Graph) (i275 : Nat) (x276 : Int) (s237 : Unit) : Option (Ctl (Unit) (Ctl (Unit) (Option S_mend_solver × Bool))) :=
  (((idx p1.Last (i275 : Int)).bind fun (x311 : Int) => (ifb (decide (x311 ≥ 0)) (some (decide (x276 > x311))) (some false))).bind fun (s306 : Bool) => (ifb s306 (some (.out (.out ((none : Option S_mend_solver), false)))) (some (.go ()))))
def mend_start (p1 : S_mend_Graph) : Option (Option S_mend_solver × Bool) :=
  (((slices_Clone_int_int p1.Ready).bind fun (x172 : List Int) => ((gmake 24 (p1.Ready.length : Int) ([] : List S_mend_Arc)).bind fun (x183 : List (List S_mend_Arc)) => (some (x172, p1.Last, x183)))).bind fun (s149 : List Int × List Int × List (List S_mend_Arc)) => ((forC (mend_start_b2 p1) s149.1 ()).bind fun c273 => Ctl.on c273 (fun s237 => ((mend_solver_with s149.1 s149.2.1 s149.2.2 p1.Arcs).bind fun (x337 : Option S_mend_solver × Bool) => (some (x337.1, x337.2)))) (fun x346 => (some x346))))
def mend_start.R (G : World) (f : HP) (L : List HProp) (A2 : Option Addr) (n3 : Nat) (c4 : Nat) (A6 : Option Addr) (n7 : Nat) (c8 : Nat) (A10 : Option Addr) (n11 : Nat) (c12 : Nat) (A14 : Option Addr) (n15 : Nat) (c16 : Nat) (A18 : Option Addr) (n19 : Nat) (c20 : Nat) (p1 : S_mend_Graph) (r : Option S_mend_solver × Bool) : Value → World → Prop := fun v' w' =>
  ∃ (f' : HP) (v117 : Value), HP.le f f' ∧ v' = (Value.tuple #[v117, (Value.bool r.2)]) ∧ (fOpt fS_mend_solver).p f' [v117] r.1 ∧ Wd G w' f' (L)
theorem mend_start.calls {G w : World} {f : HP} {L : List HProp} {A2 : Option Addr} {n3 : Nat} {c4 : Nat} {A6 : Option Addr} {n7 : Nat} {c8 : Nat} {A10 : Option Addr} {n11 : Nat} {c12 : Nat} {A14 : Option Addr} {n15 : Nat} {c16 : Nat} {A18 : Option Addr} {n19 : Nat} {c20 : Nat} {p1 : S_mend_Graph} (hw : Wd G w f (L)) (hs5 : SlF f (fInt .i64) A2 n3 c4 p1.Ready) (hs9 : SlF f (fInt .i64) A6 n7 c8 p1.Last) (hs13 : SlF f (fInt .i64) A10 n11 c12 p1.Due) (hs17 : SlF f fS_mend_Arc A14 n15 c16 p1.Arcs) (hs21 : SlF f fS_mend_Choice A18 n19 c20 p1.Choices) {r : Option S_mend_solver × Bool} (h : mend_start p1 = some r) :
    Calls Try.prog 42 #[(Value.agg #[(Value.slice A2 n3 c4), (Value.slice A6 n7 c8), (Value.slice A10 n11 c12), (Value.slice A14 n15 c16), (Value.slice A18 n19 c20)])] w (Returns (mend_start.R G f L A2 n3 c4 A6 n7 c8 A10 n11 c12 A14 n15 c16 A18 n19 c20 p1 r)) := by
  unfold mend_start at h
  refine ecalls 50 Try.func42 rfl rfl ?_
  refine ewp_seq ?_
  refine ewp_region ?_
  refine el_exv (wanted_n rfl) rfl rfl (run_boxE (cs := [(Value.slice A2 n3 c4), (Value.slice A6 n7 c8), (Value.slice A10 n11 c12), (Value.slice A14 n15 c16), (Value.slice A18 n19 c20)]) rfl rfl hw) ?_
  rintro w121 _ ⟨b119, rfl, hw⟩
  refine el_val (v := (Value.pointer none)) (wanted_n rfl) rfl rfl (run_pev (v := (Value.pointer none)) rfl) ?_
  refine el_val (v := (Value.bool false)) (wanted_n rfl) rfl rfl (run_pev (v := (Value.bool false)) rfl) ?_
  refine el_nil ?_
  refine ewp_seq ?_
  obtain ⟨s149, hc171, h⟩ := bind_some h
  refine ewp_N (fun ρ' w' => ∃ (f150 : HP) (b153 : Nat) (A155 : Option Addr) (n156 : Nat) (c157 : Nat) (cur158 : Array Value) (A161 : Option Addr) (n162 : Nat) (c163 : Nat) (A165 : Option Addr) (n166 : Nat) (c167 : Nat) (cur168 : Array Value), HP.le f f150 ∧ ArrOk f150 (fInt .i64) A155 n156 c157 cur158 s149.1 ∧ SlF f150 (fInt .i64) A161 n162 c163 s149.2.1 ∧ ArrOk f150 (fSl fS_mend_Arc) A165 n166 c167 cur168 s149.2.2 ∧ Live ρ' [(1, (Value.pointer (some ⟨b119, 0, none⟩))), (4, (Value.pointer (some ⟨b153, 0, none⟩)))] ∧ Wd G w' f150 (Blk b119 (.cells (List.toArray [(Value.slice A2 n3 c4), (Value.slice A6 n7 c8), (Value.slice A10 n11 c12), (Value.slice A14 n15 c16), (Value.slice A18 n19 c20)]) 26 (0, 0)) :: Blk b153 (.cells (List.toArray [(Value.slice A155 n156 c157), (Value.slice A161 n162 c163), (Value.slice A165 n166 c167)]) 73 (0, 0)) :: Arr A155 c157 cur158 :: Arr A165 c167 cur168 :: L)) ?_ ?_
  · replace h := hc171
    obtain ⟨x172, hx173, h⟩ := bind_some h
    obtain ⟨x183, hx184, h⟩ := bind_some h
    refine ewp_draw (SW G f (Blk b119 (.cells (List.toArray [(Value.slice A2 n3 c4), (Value.slice A6 n7 c8), (Value.slice A10 n11 c12), (Value.slice A14 n15 c16), (Value.slice A18 n19 c20)]) 26 (0, 0)) :: L)) [] 11 mixed ?_
    replace hw := hw.drew
    have hS := SW.of hw
    refine et_pure (i := 0) (v := (Value.pointer (some ⟨b119, 0, none⟩))) rfl (by kernel_rfl) (fun _ _ _ h => h) rfl rfl (.inl ⟨(wanted_n rfl), fun _ => run_fieldAddr tf26_0 (o := 0) rfl⟩) ?_
    refine et_first (i := 1) (v := (Value.slice A2 n3 c4)) rfl (by kernel_rfl) (fun _ _ _ h => h) rfl rfl (.inl ⟨(wanted_n rfl), fun w9 ⟨f9, hl9, h9⟩ => run_load1 (ad := ⟨b119, 0, none⟩) ta22 rfl (wd_cell 0 h9 rfl rfl)⟩) hS ?_
    refine et_pure (i := 3) (v := (Value.pointer (some ⟨b119, 1, none⟩))) rfl (by kernel_rfl) (fun _ _ _ h => h) rfl rfl (.inl ⟨(wanted_n rfl), fun _ => run_fieldAddr tf26_1 (o := 0) rfl⟩) ?_
    refine et_first (i := 4) (v := (Value.slice A6 n7 c8)) rfl (by kernel_rfl) (fun _ _ _ h => h) rfl rfl (.inl ⟨(wanted_n rfl), fun w9 ⟨f9, hl9, h9⟩ => run_load1 (ad := ⟨b119, 1, none⟩) ta22 rfl (wd_cell 0 h9 rfl rfl)⟩) hS ?_
    refine et_pure (i := 5) (v := (Value.pointer (some ⟨b119, 0, none⟩))) rfl (by kernel_rfl) (fun _ _ _ h => h) rfl rfl (.inl ⟨(wanted_n rfl), fun _ => run_fieldAddr tf26_0 (o := 0) rfl⟩) ?_
    refine et_first (i := 6) (v := (Value.slice A2 n3 c4)) rfl (by kernel_rfl) (fun _ _ _ h => h) rfl rfl (.inl ⟨(wanted_n rfl), fun w9 ⟨f9, hl9, h9⟩ => run_load1 (ad := ⟨b119, 0, none⟩) ta22 rfl (wd_cell 0 h9 rfl rfl)⟩) hS ?_
    refine et_pure (i := 7) (v := (Value.int .i64 (p1.Ready.length : Int))) rfl (by kernel_rfl) (fun _ _ _ h => h) rfl rfl (.inl ⟨(wanted_n rfl), fun _ => run_lenS te22 rfl hs5.len⟩) ?_
    refine et_all [2, 8] (by kernel_rfl) ?_
    intro j195 hj
    simp only [List.mem_cons, List.not_mem_nil, or_false] at hj
    rcases hj with rfl | rfl
    · refine eo_call rfl (wanted_n rfl) rfl rfl (run_call (vals := (List.toArray [(Value.slice A2 n3 c4)])) rfl cl12 rfl) (slices_Clone_int_int.calls hw hs5 hx173) ?_
      rintro _ w204 ⟨f196, A198, n199, c200, cur201, hle197, rfl, hk202, hw⟩
      replace hs5 := hs5.mono hle197
      replace hs9 := hs9.mono hle197
      replace hs13 := hs13.mono hle197
      replace hs17 := hs17.mono hle197
      replace hs21 := hs21.mono hle197
      refine and_keep (SW.mk hle197 hw.drop_0) fun hS => ?_
      refine et_one 8 (by kernel_rfl) ?_
      refine eo_exv rfl (wanted_n rfl) rfl rfl (run_arrMake (E := fSl fS_mend_Arc) te35 ts23 tb23 tz23 ⟨_, _, _, rfl, SlF.nil _ _⟩ rfl rfl hx184 hw) ?_
      rintro w211 _ ⟨A205, n206, c207, cur208, rfl, hk209, hw⟩
      refine and_keep (SW.mk hle197 hw.drop_0.drop_0) fun hS => ?_
      refine et_pure (i := 9) (v := (Value.agg #[(Value.slice A198 n199 c200), (Value.slice A6 n7 c8), (Value.slice A205 n206 c207)])) rfl (by kernel_rfl) (fun _ _ _ h => h) rfl rfl (.inl ⟨(wanted_n rfl), fun _ => run_buildS (parts := [(0, .tmp 9), (1, .tmp 11), (2, .tmp 15)]) (cs := [(Value.slice A198 n199 c200), (Value.slice A6 n7 c8), (Value.slice A205 n206 c207)]) tz73 tp73 rfl⟩) ?_
      refine et_one 10 (by kernel_rfl) ?_
      refine eo_exv rfl (wanted_n rfl) rfl rfl (run_boxE (cs := [(Value.slice A198 n199 c200), (Value.slice A6 n7 c8), (Value.slice A205 n206 c207)]) rfl rfl hw) ?_
      rintro w214 _ ⟨b212, rfl, hw⟩
      refine and_keep (SW.mk hle197 hw.drop_0.drop_0.drop_0) fun hS => ?_
      refine et_tail rfl ?_
      refine ey_one (i := 11) (by kernel_rfl) ?_
      refine eo_val (v := (Value.pointer (some ⟨b212, 0, none⟩))) rfl (wanted_n rfl) rfl rfl (run_pev (v := (Value.pointer (some ⟨b212, 0, none⟩))) rfl) ?_
      refine ey_done rfl ?_
      replace hw := hw.front2
      replace hw := hw.front1
      replace hw := hw.front3
      obtain rfl := Option.some.inj h
      exact ⟨f196, b212, A198, n199, c200, cur201, A6, n7, c8, A205, n206, c207, cur208, hle197, hk202, hs9, hk209, ⟨rfl, rfl, trivial⟩, hw⟩
    · refine eo_exv rfl (wanted_n rfl) rfl rfl (run_arrMake (E := fSl fS_mend_Arc) te35 ts23 tb23 tz23 ⟨_, _, _, rfl, SlF.nil _ _⟩ rfl rfl hx184 hw) ?_
      rintro w221 _ ⟨A215, n216, c217, cur218, rfl, hk219, hw⟩
      refine and_keep (SW.mk (HP.le_refl _) hw.drop_0) fun hS => ?_
      refine et_one 2 (by kernel_rfl) ?_
      refine eo_call rfl (wanted_n rfl) rfl rfl (run_call (vals := (List.toArray [(Value.slice A2 n3 c4)])) rfl cl12 rfl) (slices_Clone_int_int.calls hw hs5 hx173) ?_
      rintro _ w230 ⟨f222, A224, n225, c226, cur227, hle223, rfl, hk228, hw⟩
      replace hs5 := hs5.mono hle223
      replace hs9 := hs9.mono hle223
      replace hs13 := hs13.mono hle223
      replace hs17 := hs17.mono hle223
      replace hs21 := hs21.mono hle223
      replace hk219 := hk219.mono hle223
      refine and_keep (SW.mk hle223 hw.drop_0.drop_0) fun hS => ?_
      refine et_pure (i := 9) (v := (Value.agg #[(Value.slice A224 n225 c226), (Value.slice A6 n7 c8), (Value.slice A215 n216 c217)])) rfl (by kernel_rfl) (fun _ _ _ h => h) rfl rfl (.inl ⟨(wanted_n rfl), fun _ => run_buildS (parts := [(0, .tmp 9), (1, .tmp 11), (2, .tmp 15)]) (cs := [(Value.slice A224 n225 c226), (Value.slice A6 n7 c8), (Value.slice A215 n216 c217)]) tz73 tp73 rfl⟩) ?_
      refine et_one 10 (by kernel_rfl) ?_
      refine eo_exv rfl (wanted_n rfl) rfl rfl (run_boxE (cs := [(Value.slice A224 n225 c226), (Value.slice A6 n7 c8), (Value.slice A215 n216 c217)]) rfl rfl hw) ?_
      rintro w233 _ ⟨b231, rfl, hw⟩
      refine and_keep (SW.mk hle223 hw.drop_0.drop_0.drop_0) fun hS => ?_
      refine et_tail rfl ?_
      refine ey_one (i := 11) (by kernel_rfl) ?_
      refine eo_val (v := (Value.pointer (some ⟨b231, 0, none⟩))) rfl (wanted_n rfl) rfl rfl (run_pev (v := (Value.pointer (some ⟨b231, 0, none⟩))) rfl) ?_
      refine ey_done rfl ?_
      replace hw := hw.front3
      obtain rfl := Option.some.inj h
      exact ⟨f222, b231, A224, n225, c226, cur227, A6, n7, c8, A215, n216, c217, cur218, hle223, hk228, hs9, hk219, ⟨rfl, rfl, trivial⟩, hw⟩
  · rintro ρ234 w235 ⟨f150, b153, A155, n156, c157, cur158, A161, n162, c163, A165, n166, c167, cur168, hle151, hk159, hs164, hk169, hl152, hw⟩
    first | refine ewp_live hl152 fun ρ236 => ?_ | rw [← hl152.eq]
    replace hs5 := hs5.mono hle151
    replace hs9 := hs9.mono hle151
    replace hs13 := hs13.mono hle151
    replace hs17 := hs17.mono hle151
    replace hs21 := hs21.mono hle151
    refine ewp_seq ?_
    refine ewp_seq ?_
    refine ewp_region ?_
    refine el_val (v := (Value.pointer (some ⟨b153, 0, none⟩))) (wanted_n rfl) rfl rfl (run_pev (v := (Value.pointer (some ⟨b153, 0, none⟩))) rfl) ?_
    refine el_val (v := (Value.pointer (some ⟨b153, 0, none⟩))) (wanted_n rfl) rfl rfl (run_pev (v := (Value.pointer (some ⟨b153, 0, none⟩))) rfl) ?_
    refine el_val (v := (Value.pointer (some ⟨b153, 0, none⟩))) (wanted_n rfl) rfl rfl (run_fieldAddr tf73_0 (o := 0) rfl) ?_
    refine el_val (v := (Value.slice A155 n156 c157)) (wanted_n rfl) rfl rfl (run_load1 (ad := ⟨b153, 0, none⟩) ta22 rfl (wd_cell 1 hw rfl rfl)) ?_
    refine el_val (v := (Value.int .i64 (s149.1.length : Int))) (wanted_n rfl) rfl rfl (run_lenS te22 rfl hk159.len) ?_
    refine el_val (v := (Value.int .i64 0)) (wanted_n rfl) rfl rfl (run_pev (v := (Value.int .i64 0)) rfl) ?_
    refine el_nil ?_
    obtain ⟨c273, hc274, h⟩ := bind_some h
    refine ewp_M (fun ρ' w' => ∃ s237, c273 = .go s237 ∧ ∃ (f238 : HP), HP.le f150 f238 ∧ Live ρ' [(1, (Value.pointer (some ⟨b119, 0, none⟩))), (4, (Value.pointer (some ⟨b153, 0, none⟩)))] ∧ Wd G w' f238 (Arr A155 c157 cur158 :: Arr A165 c167 cur168 :: Blk b119 (.cells (List.toArray [(Value.slice A2 n3 c4), (Value.slice A6 n7 c8), (Value.slice A10 n11 c12), (Value.slice A14 n15 c16), (Value.slice A18 n19 c20)]) 26 (0, 0)) :: Blk b153 (.cells (List.toArray [(Value.slice A155 n156 c157), (Value.slice A161 n162 c163), (Value.slice A165 n166 c167)]) 73 (0, 0)) :: L)) (fun ρ' w' => ∃ x_, c273 = .out x_ ∧ (x_ = r → RetPost Try.prog Try.f42 (mend_start.R G f L A2 n3 c4 A6 n7 c8 A10 n11 c12 A14 n15 c16 A18 n19 c20 p1 r) .ret ρ' w')) noX ?_ ?_ ?_ ?_
    · refine ewp_block ?_
      replace hw := hw.front3
      replace hw := hw.front3
      refine ewp_forC (fun (i275 : Nat) (s237 : Unit) ρ' w' => ∃ (f238 : HP), HP.le f150 f238 ∧ Live ρ' [(1, (Value.pointer (some ⟨b119, 0, none⟩))), (4, (Value.pointer (some ⟨b153, 0, none⟩))), (21, (Value.slice A155 n156 c157)), (22, (Value.int .i64 (s149.1.length : Int))), (23, (Value.int .i64 (i275 : Int)))] ∧ Wd G w' f238 (Arr A155 c157 cur158 :: Arr A165 c167 cur168 :: Blk b119 (.cells (List.toArray [(Value.slice A2 n3 c4), (Value.slice A6 n7 c8), (Value.slice A10 n11 c12), (Value.slice A14 n15 c16), (Value.slice A18 n19 c20)]) 26 (0, 0)) :: Blk b153 (.cells (List.toArray [(Value.slice A155 n156 c157), (Value.slice A161 n162 c163), (Value.slice A165 n166 c167)]) 73 (0, 0)) :: L)) hc274 ⟨f150, (HP.le_refl _), ⟨rfl, rfl, rfl, rfl, rfl, trivial⟩, hw⟩ ?_ ?_
      · rintro i275 x276 s237 ct279 ρ277 w278 hx h ⟨f238, hle239, hl240, hw⟩
        unfold mend_start_b2 at h
        first | refine ewp_live hl240 fun ρ280 => ?_ | rw [← hl240.eq]
        replace hs5 := hs5.mono hle239
        replace hs9 := hs9.mono hle239
        replace hs13 := hs13.mono hle239
        replace hs17 := hs17.mono hle239
        replace hs21 := hs21.mono hle239
        replace hk159 := hk159.mono hle239
        replace hs164 := hs164.mono hle239
        replace hk169 := hk169.mono hle239
        refine ewp_seq ?_
        refine ewp_region ?_
        refine el_val (v := (Value.bool (decide ((i275 : Int) < (s149.1.length : Int))))) (wanted_n rfl) rfl rfl (run_pev (v := (Value.bool (decide ((i275 : Int) < (s149.1.length : Int))))) rfl) ?_
        refine el_nil ?_
        refine ewp_seq ?_
        refine ewp_cond_t rfl (lt_len hx) ?_
        refine ewp_skip ?_
        refine ewp_seq ?_
        refine ewp_block ?_
        refine ewp_seq ?_
        refine ewp_region ?_
        refine el_val (v := (Value.int .i64 (i275 : Int))) (wanted_n rfl) rfl rfl (run_pev (v := (Value.int .i64 (i275 : Int))) rfl) ?_
        obtain ⟨b281, of282, es283, hA284, hc285, he286⟩ := arr_el hk159 (idx_nat hx)
        obtain rfl : es283 = _ := he286
        refine el_val (v := (Value.pointer (some (eAdr A155 (((i275 : Int)).toNat * 1))))) (wanted_n rfl) rfl rfl (run_idx te22 ts3 rfl hk159.len rfl (idx_nat hx) hA284) ?_
        refine el_val (v := (Value.int .i64 x276)) (wanted_n rfl) rfl rfl (run_load1 (ad := (eAdr A155 (((i275 : Int)).toNat * 1))) ta3 rfl (wd_arr 0 hw rfl hA284 (hc285 0 _ rfl))) ?_
        refine el_val (v := (Value.int .i64 (i275 : Int))) (wanted_n rfl) rfl rfl (run_pev (v := (Value.int .i64 (i275 : Int))) rfl) ?_
        refine el_val (v := (Value.int .i64 x276)) (wanted_n rfl) rfl rfl (run_pev (v := (Value.int .i64 x276)) rfl) ?_
        refine el_nil ?_
        refine ewp_seq ?_
        obtain ⟨s306, hc310, h⟩ := bind_some h
        refine ewp_N (fun ρ' w' => ∃ (f307 : HP), HP.le f238 f307 ∧ Live ρ' [(1, (Value.pointer (some ⟨b119, 0, none⟩))), (4, (Value.pointer (some ⟨b153, 0, none⟩))), (21, (Value.slice A155 n156 c157)), (22, (Value.int .i64 (s149.1.length : Int))), (23, (Value.int .i64 (i275 : Int))), (42, (Value.bool s306))] ∧ Wd G w' f307 (Arr A155 c157 cur158 :: Arr A165 c167 cur168 :: Blk b119 (.cells (List.toArray [(Value.slice A2 n3 c4), (Value.slice A6 n7 c8), (Value.slice A10 n11 c12), (Value.slice A14 n15 c16), (Value.slice A18 n19 c20)]) 26 (0, 0)) :: Blk b153 (.cells (List.toArray [(Value.slice A155 n156 c157), (Value.slice A161 n162 c163), (Value.slice A165 n166 c167)]) 73 (0, 0)) :: L)) ?_ ?_
        · replace h := hc310
          refine ewp_region ?_
          refine el_val (v := (Value.pointer (some ⟨b119, 1, none⟩))) (wanted_n rfl) rfl rfl (run_fieldAddr tf26_1 (o := 0) rfl) ?_
          refine el_val (v := (Value.slice A6 n7 c8)) (wanted_n rfl) rfl rfl (run_load1 (ad := ⟨b119, 1, none⟩) ta22 rfl (wd_cell 2 hw rfl rfl)) ?_
          refine el_val (v := (Value.int .i64 (i275 : Int))) (wanted_n rfl) rfl rfl (run_pev (v := (Value.int .i64 (i275 : Int))) rfl) ?_
          obtain ⟨x311, hx312, h⟩ := bind_some h
          obtain ⟨b313, of314, es315, hA316, hc317, he318⟩ := sl_el hs9 hx312
          obtain rfl : es315 = _ := he318
          refine el_val (v := (Value.pointer (some (eAdr A6 (((i275 : Int)).toNat * 1))))) (wanted_n rfl) rfl rfl (run_idx te22 ts3 rfl hs9.len rfl hx312 hA316) ?_
          refine el_val (v := (Value.int .i64 x311)) (wanted_n rfl) rfl rfl (run_load1 (ad := (eAdr A6 (((i275 : Int)).toNat * 1))) ta3 rfl (hw.fz (hc317 0 _ rfl))) ?_
          refine el_val (v := (Value.bool (decide (x311 ≥ 0)))) (wanted_n rfl) rfl rfl (run_pev (v := (Value.bool (decide (x311 ≥ 0)))) rfl) ?_
          refine el_val (v := (Value.bool (decide (x311 ≥ 0)))) (wanted_n rfl) rfl rfl (run_pev (v := (Value.bool (decide (x311 ≥ 0)))) rfl) ?_
          rcases Bool.eq_false_or_eq_true (decide (x311 ≥ 0)) with hb319 | hb319
          · replace h := ifb_t hb319 h
            refine el_val (v := (Value.int .i64 x276)) (wanted_y rfl rfl rfl hb319) rfl rfl (run_pev (v := (Value.int .i64 x276)) rfl) ?_
            refine el_val (v := (Value.pointer (some ⟨b119, 1, none⟩))) (wanted_y rfl rfl rfl hb319) rfl rfl (run_fieldAddr tf26_1 (o := 0) rfl) ?_
            refine el_val (v := (Value.slice A6 n7 c8)) (wanted_y rfl rfl rfl hb319) rfl rfl (run_load1 (ad := ⟨b119, 1, none⟩) ta22 rfl (wd_cell 2 hw rfl rfl)) ?_
            refine el_val (v := (Value.int .i64 (i275 : Int))) (wanted_y rfl rfl rfl hb319) rfl rfl (run_pev (v := (Value.int .i64 (i275 : Int))) rfl) ?_
            obtain ⟨b320, of321, es322, hA323, hc324, he325⟩ := sl_el hs9 hx312
            obtain rfl : es322 = _ := he325
            refine el_val (v := (Value.pointer (some (eAdr A6 (((i275 : Int)).toNat * 1))))) (wanted_y rfl rfl rfl hb319) rfl rfl (run_idx te22 ts3 rfl hs9.len rfl hx312 hA323) ?_
            refine el_val (v := (Value.int .i64 x311)) (wanted_y rfl rfl rfl hb319) rfl rfl (run_load1 (ad := (eAdr A6 (((i275 : Int)).toNat * 1))) ta3 rfl (hw.fz (hc324 0 _ rfl))) ?_
            refine el_val (v := (Value.bool (decide (x276 > x311)))) (wanted_y rfl rfl rfl hb319) rfl rfl (run_pev (v := (Value.bool (decide (x276 > x311)))) rfl) ?_
            refine el_val (v := (Value.bool (decide (x276 > x311)))) (wanted_n rfl) rfl rfl (run_pick_t rfl hb319 rfl) ?_
            refine el_nil ?_
            obtain rfl := Option.some.inj h
            exact ⟨f238, (HP.le_refl _), ⟨rfl, rfl, rfl, rfl, rfl, rfl, trivial⟩, hw⟩
          · replace h := ifb_f hb319 h
            refine el_pass (wanted_f rfl rfl rfl hb319) rfl rfl ?_
            refine el_pass (wanted_f rfl rfl rfl hb319) rfl rfl ?_
            refine el_pass (wanted_f rfl rfl rfl hb319) rfl rfl ?_
            refine el_pass (wanted_f rfl rfl rfl hb319) rfl rfl ?_
            refine el_pass (wanted_f rfl rfl rfl hb319) rfl rfl ?_
            refine el_pass (wanted_f rfl rfl rfl hb319) rfl rfl ?_
            refine el_pass (wanted_f rfl rfl rfl hb319) rfl rfl ?_
            refine el_val (v := (Value.bool false)) (wanted_n rfl) rfl rfl (run_pick_f rfl hb319 rfl) ?_
            refine el_nil ?_
            obtain rfl := Option.some.inj h
            exact ⟨f238, (HP.le_refl _), ⟨rfl, rfl, rfl, rfl, rfl, rfl, trivial⟩, hw⟩
        · rintro ρ326 w327 ⟨f307, hle308, hl309, hw⟩
          first | refine ewp_live hl309 fun ρ328 => ?_ | rw [← hl309.eq]
          replace hs5 := hs5.mono hle308
          replace hs9 := hs9.mono hle308
          replace hs13 := hs13.mono hle308
          replace hs17 := hs17.mono hle308
          replace hs21 := hs21.mono hle308
          replace hk159 := hk159.mono hle308
          replace hs164 := hs164.mono hle308
          replace hk169 := hk169.mono hle308
          refine ewp_cond s306 rfl (fun hb329 => ?_) (fun hb329 => ?_)
          · replace h := ifb_t hb329 h
            refine ewp_seq ?_
            refine ewp_region ?_
            refine el_val (v := (Value.pointer none)) (wanted_n rfl) rfl rfl (run_pev (v := (Value.pointer none)) rfl) ?_
            refine el_val (v := (Value.bool false)) (wanted_n rfl) rfl rfl (run_pev (v := (Value.bool false)) rfl) ?_
            refine el_nil ?_
            refine ewp_ret ?_
            replace hw := hw.drop_0
            replace hw := hw.drop_0
            replace hw := hw.drop_0
            replace hw := hw.drop_0
            obtain rfl := Option.some.inj h
            refine ⟨_, rfl, fun hf => ⟨_, hf, fun hr => ?_⟩⟩
            subst hr
            exact ⟨_, res2 rfl, f307, (Value.pointer none), (HP.le_trans (HP.le_trans hle151 hle239) hle308), rfl, rfl, hw⟩
          · replace h := ifb_f hb329 h
            refine ewp_skip ?_
            refine ewp_region ?_
            refine el_val (v := (Value.int .i64 (w64 ((i275 : Int) + 1)))) (wanted_n rfl) rfl rfl (run_pev (v := (Value.int .i64 (w64 ((i275 : Int) + 1)))) rfl) ?_
            refine el_val (v := (Value.int .i64 (w64 ((i275 : Int) + 1)))) (wanted_n rfl) rfl rfl (run_pev (v := (Value.int .i64 (w64 ((i275 : Int) + 1)))) rfl) ?_
            refine el_nil ?_
            obtain rfl := Option.some.inj h
            exact ⟨_, rfl, f307, (HP.le_trans hle239 hle308), ⟨rfl, rfl, rfl, rfl, (congrArg (Value.int .i64) (succ_w64 hk159.room hx)), trivial⟩, hw⟩
      · rintro s237 ρ330 w331 hfin332 ⟨f238, hle239, hl240, hw⟩
        first | refine ewp_live hl240 fun ρ333 => ?_ | rw [← hl240.eq]
        replace hs5 := hs5.mono hle239
        replace hs9 := hs9.mono hle239
        replace hs13 := hs13.mono hle239
        replace hs17 := hs17.mono hle239
        replace hs21 := hs21.mono hle239
        replace hk159 := hk159.mono hle239
        replace hs164 := hs164.mono hle239
        replace hk169 := hk169.mono hle239
        refine ewp_seq ?_
        refine ewp_region ?_
        refine el_val (v := (Value.bool (decide ((s149.1.length : Int) < (s149.1.length : Int))))) (wanted_n rfl) rfl rfl (run_pev (v := (Value.bool (decide ((s149.1.length : Int) < (s149.1.length : Int))))) rfl) ?_
        refine el_nil ?_
        refine ewp_seq ?_
        refine ewp_cond_f rfl (nlt_self _) ?_
        refine ewp_exit ?_
        exact ⟨s237, hfin332, f238, hle239, ⟨rfl, rfl, trivial⟩, hw⟩
    · rintro ρ334 w335 ⟨s237, rfl, f238, hle239, hl240, hw⟩
      replace h := on_go h
      first | refine ewp_live hl240 fun ρ336 => ?_ | rw [← hl240.eq]
      replace hs5 := hs5.mono hle239
      replace hs9 := hs9.mono hle239
      replace hs13 := hs13.mono hle239
      replace hs17 := hs17.mono hle239
      replace hs21 := hs21.mono hle239
      replace hk159 := hk159.mono hle239
      replace hs164 := hs164.mono hle239
      replace hk169 := hk169.mono hle239
      refine ewp_seq ?_
      refine ewp_region ?_
      refine el_val (v := (Value.pointer (some ⟨b153, 0, none⟩))) (wanted_n rfl) rfl rfl (run_pev (v := (Value.pointer (some ⟨b153, 0, none⟩))) rfl) ?_
      refine el_val (v := (Value.pointer (some ⟨b119, 3, none⟩))) (wanted_n rfl) rfl rfl (run_fieldAddr tf26_3 (o := 0) rfl) ?_
      refine el_val (v := (Value.slice A14 n15 c16)) (wanted_n rfl) rfl rfl (run_load1 (ad := ⟨b119, 3, none⟩) ta23 rfl (wd_cell 2 hw rfl rfl)) ?_
      obtain ⟨x337, hx338, h⟩ := bind_some h
      replace hw := hw.front1
      replace hw := hw.front1
      replace hw := hw.front3
      refine el_call (wanted_n rfl) rfl rfl (run_call (vals := (List.toArray [(Value.pointer (some ⟨b153, 0, none⟩)), (Value.slice A14 n15 c16)])) rfl cl41 rfl) (mend_solver_with.calls hw hk159 hs164 hk169 hs17 hx338) ?_
      rintro _ w343 ⟨f339, v341, hle340, rfl, ho342, hw⟩
      replace hs5 := hs5.mono hle340
      replace hs9 := hs9.mono hle340
      replace hs13 := hs13.mono hle340
      replace hs17 := hs17.mono hle340
      replace hs21 := hs21.mono hle340
      replace hk159 := hk159.mono hle340
      replace hs164 := hs164.mono hle340
      replace hk169 := hk169.mono hle340
      refine el_val (v := v341) (wanted_n rfl) rfl rfl (run_pev (v := v341) rfl) ?_
      refine el_val (v := (Value.bool x337.2)) (wanted_n rfl) rfl rfl (run_pev (v := (Value.bool x337.2)) rfl) ?_
      refine el_val (v := v341) (wanted_n rfl) rfl rfl (run_pev (v := v341) rfl) ?_
      refine el_val (v := (Value.bool x337.2)) (wanted_n rfl) rfl rfl (run_pev (v := (Value.bool x337.2)) rfl) ?_
      refine el_nil ?_
      refine ewp_ret ?_
      replace hw := hw.drop_0
      replace hw := hw.drop_0
      replace hw := hw.drop_0
      replace hw := hw.drop_0
      obtain rfl := Option.some.inj h
      exact ⟨_, res2 rfl, f339, v341, (HP.le_trans (HP.le_trans hle151 hle239) hle340), rfl, ho342, hw⟩
    · rintro ρ344 w345 ⟨x346, rfl, hq347⟩
      replace h := on_out h
      obtain rfl := Option.some.inj h
      exact hq347 rfl
    · exact fun _ _ _ h => h.elim
def slices_Clone_mend_Arc_mend_Arc_v3.R (G : World) (f : HP) (L : List HProp) (A2 : Option Addr) (n3 : Nat) (c4 : Nat) (p1 : List (List S_mend_Arc)) (r : List (List S_mend_Arc)) : Value → World → Prop := fun v' w' =>
  ∃ (f' : HP) (A19 : Option Addr) (n20 : Nat) (c21 : Nat) (cur22 : Array Value), HP.le f f' ∧ v' = (Value.slice A19 n20 c21) ∧ ArrOk f' (fSl fS_mend_Arc) A19 n20 c21 cur22 r ∧ Wd G w' f' (Arr A19 c21 cur22 :: L)
theorem slices_Clone_mend_Arc_mend_Arc_v3.calls {G w : World} {f : HP} {L : List HProp} {A2 : Option Addr} {n3 : Nat} {c4 : Nat} {p1 : List (List S_mend_Arc)} (hw : Wd G w f (L)) (hs5 : SlF f (fSl fS_mend_Arc) A2 n3 c4 p1) {r : List (List S_mend_Arc)} (h : slices_Clone_mend_Arc_mend_Arc p1 = some r) :
    Calls Try.prog 60 #[(Value.slice A2 n3 c4)] w (Returns (slices_Clone_mend_Arc_mend_Arc_v3.R G f L A2 n3 c4 p1 r)) := by
  unfold slices_Clone_mend_Arc_mend_Arc at h
  refine ecalls 8 Try.func60 rfl rfl ?_
  rcases A2 with _ | A2
  · have hnil : p1 = [] := slf_none hs5
    replace h : some ([] : List (List S_mend_Arc)) = some r := gapp_nil hnil h
    refine ewp_seq ?_
    refine ewp_region ?_
    refine el_val (v := (Value.slice none 0 0)) (wanted_n rfl) rfl rfl (run_pev (v := (Value.slice none 0 0)) rfl) ?_
    refine el_nil ?_
    refine ewp_seq ?_
    refine ewp_seq ?_
    refine ewp_region ?_
    refine el_val (v := (Value.slice none n3 c4)) (wanted_n rfl) rfl rfl (run_pev (v := (Value.slice none n3 c4)) rfl) ?_
    refine el_val (v := (Value.bool true)) (wanted_n rfl) rfl rfl (run_slCmp false rfl te35 rfl rfl (Or.inr rfl) rfl) ?_
    refine el_nil ?_
    refine ewp_cond_t rfl rfl ?_
    refine ewp_seq ?_
    refine ewp_region ?_
    refine el_val (v := (Value.slice none 0 0)) (wanted_n rfl) rfl rfl (run_pev (v := (Value.slice none 0 0)) rfl) ?_
    refine el_nil ?_
    refine ewp_ret ?_
    obtain ⟨hk26, hw⟩ := wd_arrNil (E := fSl fS_mend_Arc) hw
    obtain rfl := Option.some.inj h
    exact ⟨_, res1 rfl, f, none, 0, 0, (#[]), (HP.le_refl _), rfl, hk26, hw⟩
  · refine ewp_seq ?_
    refine ewp_region ?_
    refine el_val (v := (Value.slice none 0 0)) (wanted_n rfl) rfl rfl (run_pev (v := (Value.slice none 0 0)) rfl) ?_
    refine el_nil ?_
    refine ewp_seq ?_
    refine ewp_seq ?_
    refine ewp_region ?_
    refine el_val (v := (Value.slice (some A2) n3 c4)) (wanted_n rfl) rfl rfl (run_pev (v := (Value.slice (some A2) n3 c4)) rfl) ?_
    refine el_val (v := (Value.bool false)) (wanted_n rfl) rfl rfl (run_slCmp false rfl te35 rfl rfl (Or.inr rfl) rfl) ?_
    refine el_nil ?_
    refine ewp_cond_f rfl rfl ?_
    refine ewp_skip ?_
    refine ewp_seq ?_
    refine ewp_region ?_
    refine el_exv (wanted_n rfl) rfl rfl (run_buildSliceE (parts := []) (cs := []) te35 ts23 tz23 rfl tm23_0 rfl hw) ?_
    rintro w30 _ ⟨b28, rfl, hw⟩
    obtain ⟨cur31, hk32, hw⟩ := wd_arrL (E := fSl fS_mend_Arc) (ess := []) (xs := ([] : List (List S_mend_Arc))) trivial rfl (by decide) hw
    refine el_val (v := (Value.slice (some A2) n3 c4)) (wanted_n rfl) rfl rfl (run_pev (v := (Value.slice (some A2) n3 c4)) rfl) ?_
    obtain ⟨x33, hx34, h⟩ := bind_some h
    refine el_exv (wanted_n rfl) rfl rfl (run_arrAppF (E := fSl fS_mend_Arc) tA35 hw hk32 rfl rfl hs5.len hs5 hx34) ?_
    rintro w40 _ ⟨A35, n36, c37, cur38, rfl, hk39, hw⟩
    refine el_val (v := (Value.slice A35 n36 c37)) (wanted_n rfl) rfl rfl (run_pev (v := (Value.slice A35 n36 c37)) rfl) ?_
    refine el_nil ?_
    refine ewp_ret ?_
    obtain rfl := Option.some.inj h
    exact ⟨_, res1 rfl, f, A35, n36, c37, cur38, (HP.le_refl _), rfl, hk39, hw⟩
end Hk
