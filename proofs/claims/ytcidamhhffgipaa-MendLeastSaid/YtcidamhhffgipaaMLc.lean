/- Functions of the program as plain functions, with proofs that each call returns what its plain function gives. Printed by a tool. -/
import Derived.Test.YtcidamhhffgipaaMLb
set_option linter.unusedVariables false
set_option linter.unusedSimpArgs false
set_option maxRecDepth 20000
set_option maxHeartbeats 2000000
namespace Hk
open Go Go.Proofs
def mend_solver_with_v2_b11 (s768 : List Int × List Int × List (List S_mend_Arc)) (s1020 : List (List S_mend_Arc)) (i1995 : Nat) (x1996 : S_mend_Arc) (s1941 : List Bool × List Int × List Int × List Int × Bool) : Option (Ctl (List Bool × List Int × List Int × List Int × Bool) (Ctl (List Bool × List Int × List Int × List Int × Bool) (Empty))) :=
  ((mend_solver_with_1_v2 x1996 s1941.2.2.1 s768.2.1 s1020 s1941.2.2.2.1 s1941.2.2.2.2 s1941.1 s1941.2.1).bind fun (x2011 : List Int × List Int × Bool × List Bool × List Int) => (some (.go (x2011.2.2.2.1, x2011.2.2.2.2, x2011.1, x2011.2.1, x2011.2.2.1))))
def mend_solver_with_v2_b10 (s768 : List Int × List Int × List (List S_mend_Arc)) (s1020 : List (List S_mend_Arc)) (x1498 : Int) (s1648 : List Int × List Int × List Bool × List Int × Bool) : Option (Ctl (List Int × List Int × List Bool × List Int × Bool) (Ctl (List Int × List Int × List Bool × List Int × Bool) (Option S_mend_solver × Bool))) :=
  ((ifb (decide ((s1648.2.2.2.1.length : Int) > 0)) (some s1648.2.2.2.2) (some false)).bind fun (s1854 : Bool) => (ifb s1854 ((idx s1648.2.2.2.1 0).bind fun (x1864 : Int) => ((gcut s1648.2.2.2.1 1 (s1648.2.2.2.1.length : Int)).bind fun (x1872 : List Int) => ((idx s1648.2.2.1 x1864).bind fun (x1877 : Bool) => ((idx s1648.1 x1864).bind fun (x1888 : Int) => (ifb (decide (x1888 > x1498)) (some (.out (.out ((none : Option S_mend_solver), false)))) ((idx s1020 x1864).bind fun (x1897 : List S_mend_Arc) => ((forC (mend_solver_with_v2_b11 s768 s1020) x1897 ((setI s1648.2.2.1 x1864 false), x1872, s1648.1, s1648.2.1, s1648.2.2.2.2)).bind fun c1993 => Ctl.on c1993 (fun s1941 => (some (.go (s1941.2.2.1, s1941.2.2.2.1, s1941.1, s1941.2.1, s1941.2.2.2.2)))) (fun x_ => x_.elim)))))))) (some (.out (.go (s1648.1, s1648.2.1, s1648.2.2.1, s1648.2.2.2.1, s1648.2.2.2.2))))))
def mend_solver_with_v2_b7 (s768 : List Int × List Int × List (List S_mend_Arc)) (s1020 : List (List S_mend_Arc)) (i1456 : Nat) (x1457 : S_mend_Arc) (s1401 : List Int × List Bool × List Int × Bool × List Int) : Option (Ctl (List Int × List Bool × List Int × Bool × List Int) (Ctl (List Int × List Bool × List Int × Bool × List Int) (Empty))) :=
  ((mend_solver_with_1_v2 x1457 s1401.2.2.1 s768.2.1 s1020 s1401.1 s1401.2.2.2.1 s1401.2.1 s1401.2.2.2.2).bind fun (x1475 : List Int × List Int × Bool × List Bool × List Int) => (some (.go (x1475.2.1, x1475.2.2.2.1, x1475.1, x1475.2.2.1, x1475.2.2.2.2))))
def mend_solver_with_v2_b6  (i1106 : Nat) (x1107 : S_mend_Arc) (s1020 : List (List S_mend_Arc)) : Option (Ctl (List (List S_mend_Arc)) (Ctl (List (List S_mend_Arc)) (Empty))) :=
  (((idx s1020 x1107.From).bind fun (x1196 : List S_mend_Arc) => ((slices_Clone_mend_Arc_mend_Arc_v2 x1196).bind fun (x1208 : List S_mend_Arc) => ((gapp 24 x1208 [x1107]).bind fun (x1222 : List S_mend_Arc) => (some (setI s1020 x1107.From x1222))))).bind fun (s1176 : List (List S_mend_Arc)) => (some (.go s1176)))
def mend_solver_with_v2 (p1 : Option S_mend_solver) (p4 : List S_mend_Arc) : Option (Option S_mend_solver × Bool) :=
  (((p1).bind fun (x793 : S_mend_solver) => ((slices_Clone_int_int x793.times).bind fun (x814 : List Int) => ((slices_Clone_mend_Arc_mend_Arc x793.outs).bind fun (x825 : List (List S_mend_Arc)) => (some (x814, x793.last, x825))))).bind fun (s768 : List Int × List Int × List (List S_mend_Arc)) => ((forC mend_solver_with_v2_b6 p4 s768.2.2).bind fun c1104 => Ctl.on c1104 (fun s1020 => ((gmake 1 (s768.1.length : Int) false).bind fun (x1335 : List Bool) => ((gmake 8 (s768.1.length : Int) (0 : Int)).bind fun (x1348 : List Int) => ((forC (mend_solver_with_v2_b7 s768 s1020) p4 (x1348, x1335, s768.1, true, ([] : List Int))).bind fun c1454 => Ctl.on c1454 (fun s1401 => ((mend_solver_bound s1401.2.2.1 s768.2.1 s1020).bind fun (x1498 : Int) => ((iter (mend_solver_with_v2_b10 s768 s1020 x1498) (s1401.2.2.1, s1401.1, s1401.2.1, s1401.2.2.2.2, s1401.2.2.2.1)).bind fun c1841 => Ctl.on c1841 (fun s1817 => (some ((some (S_mend_solver.mk s1817.1 s768.2.1 s1020)), s1817.2.2.2.2))) (fun x2048 => (some x2048))))) (fun x_ => x_.elim))))) (fun x_ => x_.elim)))
def mend_solver_with_v2.R (G : World) (f : HP) (L : List HProp) (v2 : Value) (A5 : Option Addr) (n6 : Nat) (c7 : Nat) (p1 : Option S_mend_solver) (p4 : List S_mend_Arc) (r : Option S_mend_solver × Bool) : Value → World → Prop := fun v' w' =>
  ∃ (f' : HP) (v712 : Value), HP.le f f' ∧ v' = (Value.tuple #[v712, (Value.bool r.2)]) ∧ (fOpt fS_mend_solver).p f' [v712] r.1 ∧ Wd G w' f' (L)
theorem mend_solver_with_v2.calls {G w : World} {f : HP} {L : List HProp} {v2 : Value} {A5 : Option Addr} {n6 : Nat} {c7 : Nat} {p1 : Option S_mend_solver} {p4 : List S_mend_Arc} (hw : Wd G w f (L)) (ho3 : (fOpt fS_mend_solver).p f [v2] p1) (hs8 : SlF f fS_mend_Arc A5 n6 c7 p4) {r : Option S_mend_solver × Bool} (h : mend_solver_with_v2 p1 p4 = some r) :
    Calls Try.prog 41 #[v2, (Value.slice A5 n6 c7)] w (Returns (mend_solver_with_v2.R G f L v2 A5 n6 c7 p1 p4 r)) := by
  unfold mend_solver_with_v2 at h
  refine ecalls 128 Try.func41 rfl rfl ?_
  refine ewp_seq ?_
  refine ewp_region ?_
  refine el_val (v := (Value.pointer none)) (wanted_n rfl) rfl rfl (run_pev (v := (Value.pointer none)) rfl) ?_
  refine el_val (v := (Value.bool false)) (wanted_n rfl) rfl rfl (run_pev (v := (Value.bool false)) rfl) ?_
  refine el_nil ?_
  refine ewp_seq ?_
  obtain ⟨s768, hc792, h⟩ := bind_some h
  refine ewp_N (fun ρ' w' => ∃ (f769 : HP) (b772 : Nat) (b774 : Nat) (A776 : Option Addr) (n777 : Nat) (c778 : Nat) (cur779 : Array Value) (A782 : Option Addr) (n783 : Nat) (c784 : Nat) (A786 : Option Addr) (n787 : Nat) (c788 : Nat) (cur789 : Array Value), HP.le f f769 ∧ ArrOk f769 (fInt .i64) A776 n777 c778 cur779 s768.1 ∧ SlF f769 (fInt .i64) A782 n783 c784 s768.2.1 ∧ ArrOk f769 (fSl fS_mend_Arc) A786 n787 c788 cur789 s768.2.2 ∧ Live ρ' [(1, (Value.slice A5 n6 c7)), (6, (Value.pointer (some ⟨b772, 0, none⟩)))] ∧ Wd G w' f769 (Blk b772 (.cells (List.toArray [(Value.pointer (some ⟨b774, 0, none⟩))]) 69 (0, 0)) :: Blk b774 (.cells (List.toArray [(Value.slice A776 n777 c778), (Value.slice A782 n783 c784), (Value.slice A786 n787 c788)]) 73 (0, 0)) :: Arr A776 c778 cur779 :: Arr A786 c788 cur789 :: L)) ?_ ?_
  · replace h := hc792
    obtain ⟨x793, hx794, h⟩ := bind_some h
    obtain ⟨x814, hx815, h⟩ := bind_some h
    obtain ⟨x825, hx826, h⟩ := bind_some h
    refine ewp_draw (SW G f (L)) [] 17 mixed ?_
    replace hw := hw.drew
    have hS := SW.of hw
    refine et_pure (i := 0) (v := v2) rfl (by kernel_rfl) (fun _ _ _ h => h) rfl rfl (.inl ⟨(wanted_n rfl), fun _ => run_pev (v := v2) rfl⟩) ?_
    obtain ⟨b843, ds844, ty845, fr846, ev849, hb847, hE848⟩ := fOpt_some ho3 hx794
    obtain ⟨A850, n851, c852, A854, n855, c856, A858, n859, c860, rfl, hs853, hs857, hs861⟩ := fS_mend_solver.op hE848
    obtain rfl := ev849
    refine et_pure (i := 1) (v := (Value.pointer (some ⟨b843, 0, none⟩))) rfl (by kernel_rfl) (fun _ _ _ h => h) rfl rfl (.inl ⟨(wanted_n rfl), fun _ => run_pev (v := (Value.pointer (some ⟨b843, 0, none⟩))) rfl⟩) ?_
    refine et_pure (i := 2) (v := (Value.pointer (some ⟨b843, 0, none⟩))) rfl (by kernel_rfl) (fun _ _ _ h => h) rfl rfl (.inl ⟨(wanted_n rfl), fun _ => run_fieldAddr tf73_0 (o := 0) rfl⟩) ?_
    refine et_first (i := 3) (v := (Value.slice A850 n851 c852)) rfl (by kernel_rfl) (fun _ _ _ h => h) rfl rfl (.inl ⟨(wanted_n rfl), fun w9 ⟨f9, hl9, h9⟩ => run_load1 (ad := ⟨b843, 0, none⟩) ta22 rfl (h9.fz (hcell_le hl9 (fblk hb847 rfl)))⟩) hS ?_
    refine et_pure (i := 5) (v := (Value.pointer (some ⟨b843, 0, none⟩))) rfl (by kernel_rfl) (fun _ _ _ h => h) rfl rfl (.inl ⟨(wanted_n rfl), fun _ => run_pev (v := (Value.pointer (some ⟨b843, 0, none⟩))) rfl⟩) ?_
    refine et_pure (i := 6) (v := (Value.pointer (some ⟨b843, 0, none⟩))) rfl (by kernel_rfl) (fun _ _ _ h => h) rfl rfl (.inl ⟨(wanted_n rfl), fun _ => run_pev (v := (Value.pointer (some ⟨b843, 0, none⟩))) rfl⟩) ?_
    refine et_pure (i := 7) (v := (Value.pointer (some ⟨b843, 1, none⟩))) rfl (by kernel_rfl) (fun _ _ _ h => h) rfl rfl (.inl ⟨(wanted_n rfl), fun _ => run_fieldAddr tf73_1 (o := 0) rfl⟩) ?_
    refine et_first (i := 8) (v := (Value.slice A854 n855 c856)) rfl (by kernel_rfl) (fun _ _ _ h => h) rfl rfl (.inl ⟨(wanted_n rfl), fun w9 ⟨f9, hl9, h9⟩ => run_load1 (ad := ⟨b843, 1, none⟩) ta22 rfl (h9.fz (hcell_le hl9 (fblk hb847 rfl)))⟩) hS ?_
    refine et_pure (i := 9) (v := (Value.pointer (some ⟨b843, 0, none⟩))) rfl (by kernel_rfl) (fun _ _ _ h => h) rfl rfl (.inl ⟨(wanted_n rfl), fun _ => run_pev (v := (Value.pointer (some ⟨b843, 0, none⟩))) rfl⟩) ?_
    refine et_pure (i := 10) (v := (Value.pointer (some ⟨b843, 0, none⟩))) rfl (by kernel_rfl) (fun _ _ _ h => h) rfl rfl (.inl ⟨(wanted_n rfl), fun _ => run_pev (v := (Value.pointer (some ⟨b843, 0, none⟩))) rfl⟩) ?_
    refine et_pure (i := 11) (v := (Value.pointer (some ⟨b843, 2, none⟩))) rfl (by kernel_rfl) (fun _ _ _ h => h) rfl rfl (.inl ⟨(wanted_n rfl), fun _ => run_fieldAddr tf73_2 (o := 0) rfl⟩) ?_
    refine et_first (i := 12) (v := (Value.slice A858 n859 c860)) rfl (by kernel_rfl) (fun _ _ _ h => h) rfl rfl (.inl ⟨(wanted_n rfl), fun w9 ⟨f9, hl9, h9⟩ => run_load1 (ad := ⟨b843, 2, none⟩) ta35 rfl (h9.fz (hcell_le hl9 (fblk hb847 rfl)))⟩) hS ?_
    refine et_all [4, 16] (by kernel_rfl) ?_
    intro j862 hj
    simp only [List.mem_cons, List.not_mem_nil, or_false] at hj
    rcases hj with rfl | rfl
    · refine eo_call rfl (wanted_n rfl) rfl rfl (run_call (vals := (List.toArray [(Value.slice A850 n851 c852)])) rfl cl12 rfl) (slices_Clone_int_int.calls hw hs853 hx815) ?_
      rintro _ w871 ⟨f863, A865, n866, c867, cur868, hle864, rfl, hk869, hw⟩
      replace hs8 := hs8.mono hle864
      replace hs853 := hs853.mono hle864
      replace hs857 := hs857.mono hle864
      replace hs861 := hs861.mono hle864
      replace hb847 := hle864 _ _ hb847
      refine and_keep (SW.mk hle864 hw.drop_0) fun hS => ?_
      refine et_all [13, 16] (by kernel_rfl) ?_
      intro j872 hj
      simp only [List.mem_cons, List.not_mem_nil, or_false] at hj
      rcases hj with rfl | rfl
      · refine eo_call rfl (wanted_n rfl) rfl rfl (run_call (vals := (List.toArray [(Value.slice A858 n859 c860)])) rfl cl60 rfl) (slices_Clone_mend_Arc_mend_Arc_v3.calls hw hs861 hx826) ?_
        rintro _ w881 ⟨f873, A875, n876, c877, cur878, hle874, rfl, hk879, hw⟩
        replace hs8 := hs8.mono hle874
        replace hs853 := hs853.mono hle874
        replace hs857 := hs857.mono hle874
        replace hs861 := hs861.mono hle874
        replace hb847 := hle874 _ _ hb847
        replace hk869 := hk869.mono hle874
        refine and_keep (SW.mk (HP.le_trans hle864 hle874) hw.drop_0.drop_0) fun hS => ?_
        refine et_pure (i := 14) (v := (Value.agg #[(Value.slice A865 n866 c867), (Value.slice A854 n855 c856), (Value.slice A875 n876 c877)])) rfl (by kernel_rfl) (fun _ _ _ h => h) rfl rfl (.inl ⟨(wanted_n rfl), fun _ => run_buildS (parts := [(0, .tmp 24), (1, .tmp 28), (2, .tmp 33)]) (cs := [(Value.slice A865 n866 c867), (Value.slice A854 n855 c856), (Value.slice A875 n876 c877)]) tz73 tp73 rfl⟩) ?_
        refine et_all [15, 16] (by kernel_rfl) ?_
        intro j882 hj
        simp only [List.mem_cons, List.not_mem_nil, or_false] at hj
        rcases hj with rfl | rfl
        · refine eo_exv rfl (wanted_n rfl) rfl rfl (run_boxE (cs := [(Value.slice A865 n866 c867), (Value.slice A854 n855 c856), (Value.slice A875 n876 c877)]) rfl rfl hw) ?_
          rintro w885 _ ⟨b883, rfl, hw⟩
          refine and_keep (SW.mk (HP.le_trans hle864 hle874) hw.drop_0.drop_0.drop_0) fun hS => ?_
          refine et_one 16 (by kernel_rfl) ?_
          refine eo_exv rfl (wanted_n rfl) rfl rfl (run_allocE (cs := [(Value.pointer none)]) tz69 rfl hw) ?_
          rintro w888 _ ⟨b886, rfl, hw⟩
          refine and_keep (SW.mk (HP.le_trans hle864 hle874) hw.drop_0.drop_0.drop_0.drop_0) fun hS => ?_
          refine et_tail rfl ?_
          refine ey_one (i := 17) (by kernel_rfl) ?_
          refine eo_exu rfl (wanted_n rfl) rfl (run_blkSetE (new := List.toArray [(Value.pointer (some ⟨b883, 0, none⟩))]) hw rfl rfl ts69 rfl rfl rfl) ?_
          rintro w889 hw
          refine ey_done rfl ?_
          replace hw := hw.front3
          replace hw := hw.front2
          replace hw := hw.front2
          obtain rfl := Option.some.inj h
          exact ⟨f873, b886, b883, A865, n866, c867, cur868, A854, n855, c856, A875, n876, c877, cur878, (HP.le_trans hle864 hle874), hk869, hs857, hk879, ⟨rfl, rfl, trivial⟩, hw⟩
        · refine eo_exv rfl (wanted_n rfl) rfl rfl (run_allocE (cs := [(Value.pointer none)]) tz69 rfl hw) ?_
          rintro w892 _ ⟨b890, rfl, hw⟩
          refine and_keep (SW.mk (HP.le_trans hle864 hle874) hw.drop_0.drop_0.drop_0) fun hS => ?_
          refine et_one 15 (by kernel_rfl) ?_
          refine eo_exv rfl (wanted_n rfl) rfl rfl (run_boxE (cs := [(Value.slice A865 n866 c867), (Value.slice A854 n855 c856), (Value.slice A875 n876 c877)]) rfl rfl hw) ?_
          rintro w895 _ ⟨b893, rfl, hw⟩
          refine and_keep (SW.mk (HP.le_trans hle864 hle874) hw.drop_0.drop_0.drop_0.drop_0) fun hS => ?_
          refine et_tail rfl ?_
          refine ey_one (i := 17) (by kernel_rfl) ?_
          replace hw := hw.front1
          refine eo_exu rfl (wanted_n rfl) rfl (run_blkSetE (new := List.toArray [(Value.pointer (some ⟨b893, 0, none⟩))]) hw rfl rfl ts69 rfl rfl rfl) ?_
          rintro w896 hw
          refine ey_done rfl ?_
          replace hw := hw.front3
          replace hw := hw.front2
          replace hw := hw.front2
          obtain rfl := Option.some.inj h
          exact ⟨f873, b890, b893, A865, n866, c867, cur868, A854, n855, c856, A875, n876, c877, cur878, (HP.le_trans hle864 hle874), hk869, hs857, hk879, ⟨rfl, rfl, trivial⟩, hw⟩
      · refine eo_exv rfl (wanted_n rfl) rfl rfl (run_allocE (cs := [(Value.pointer none)]) tz69 rfl hw) ?_
        rintro w899 _ ⟨b897, rfl, hw⟩
        refine and_keep (SW.mk hle864 hw.drop_0.drop_0) fun hS => ?_
        refine et_one 13 (by kernel_rfl) ?_
        refine eo_call rfl (wanted_n rfl) rfl rfl (run_call (vals := (List.toArray [(Value.slice A858 n859 c860)])) rfl cl60 rfl) (slices_Clone_mend_Arc_mend_Arc_v3.calls hw hs861 hx826) ?_
        rintro _ w908 ⟨f900, A902, n903, c904, cur905, hle901, rfl, hk906, hw⟩
        replace hs8 := hs8.mono hle901
        replace hs853 := hs853.mono hle901
        replace hs857 := hs857.mono hle901
        replace hs861 := hs861.mono hle901
        replace hb847 := hle901 _ _ hb847
        replace hk869 := hk869.mono hle901
        refine and_keep (SW.mk (HP.le_trans hle864 hle901) hw.drop_0.drop_0.drop_0) fun hS => ?_
        refine et_pure (i := 14) (v := (Value.agg #[(Value.slice A865 n866 c867), (Value.slice A854 n855 c856), (Value.slice A902 n903 c904)])) rfl (by kernel_rfl) (fun _ _ _ h => h) rfl rfl (.inl ⟨(wanted_n rfl), fun _ => run_buildS (parts := [(0, .tmp 24), (1, .tmp 28), (2, .tmp 33)]) (cs := [(Value.slice A865 n866 c867), (Value.slice A854 n855 c856), (Value.slice A902 n903 c904)]) tz73 tp73 rfl⟩) ?_
        refine et_one 15 (by kernel_rfl) ?_
        refine eo_exv rfl (wanted_n rfl) rfl rfl (run_boxE (cs := [(Value.slice A865 n866 c867), (Value.slice A854 n855 c856), (Value.slice A902 n903 c904)]) rfl rfl hw) ?_
        rintro w911 _ ⟨b909, rfl, hw⟩
        refine and_keep (SW.mk (HP.le_trans hle864 hle901) hw.drop_0.drop_0.drop_0.drop_0) fun hS => ?_
        refine et_tail rfl ?_
        refine ey_one (i := 17) (by kernel_rfl) ?_
        replace hw := hw.front2
        refine eo_exu rfl (wanted_n rfl) rfl (run_blkSetE (new := List.toArray [(Value.pointer (some ⟨b909, 0, none⟩))]) hw rfl rfl ts69 rfl rfl rfl) ?_
        rintro w912 hw
        refine ey_done rfl ?_
        replace hw := hw.front3
        replace hw := hw.front2
        replace hw := hw.front2
        obtain rfl := Option.some.inj h
        exact ⟨f900, b897, b909, A865, n866, c867, cur868, A854, n855, c856, A902, n903, c904, cur905, (HP.le_trans hle864 hle901), hk869, hs857, hk906, ⟨rfl, rfl, trivial⟩, hw⟩
    · refine eo_exv rfl (wanted_n rfl) rfl rfl (run_allocE (cs := [(Value.pointer none)]) tz69 rfl hw) ?_
      rintro w915 _ ⟨b913, rfl, hw⟩
      refine and_keep (SW.mk (HP.le_refl _) hw.drop_0) fun hS => ?_
      refine et_one 4 (by kernel_rfl) ?_
      refine eo_call rfl (wanted_n rfl) rfl rfl (run_call (vals := (List.toArray [(Value.slice A850 n851 c852)])) rfl cl12 rfl) (slices_Clone_int_int.calls hw hs853 hx815) ?_
      rintro _ w924 ⟨f916, A918, n919, c920, cur921, hle917, rfl, hk922, hw⟩
      replace hs8 := hs8.mono hle917
      replace hs853 := hs853.mono hle917
      replace hs857 := hs857.mono hle917
      replace hs861 := hs861.mono hle917
      replace hb847 := hle917 _ _ hb847
      refine and_keep (SW.mk hle917 hw.drop_0.drop_0) fun hS => ?_
      refine et_one 13 (by kernel_rfl) ?_
      refine eo_call rfl (wanted_n rfl) rfl rfl (run_call (vals := (List.toArray [(Value.slice A858 n859 c860)])) rfl cl60 rfl) (slices_Clone_mend_Arc_mend_Arc_v3.calls hw hs861 hx826) ?_
      rintro _ w933 ⟨f925, A927, n928, c929, cur930, hle926, rfl, hk931, hw⟩
      replace hs8 := hs8.mono hle926
      replace hs853 := hs853.mono hle926
      replace hs857 := hs857.mono hle926
      replace hs861 := hs861.mono hle926
      replace hb847 := hle926 _ _ hb847
      replace hk922 := hk922.mono hle926
      refine and_keep (SW.mk (HP.le_trans hle917 hle926) hw.drop_0.drop_0.drop_0) fun hS => ?_
      refine et_pure (i := 14) (v := (Value.agg #[(Value.slice A918 n919 c920), (Value.slice A854 n855 c856), (Value.slice A927 n928 c929)])) rfl (by kernel_rfl) (fun _ _ _ h => h) rfl rfl (.inl ⟨(wanted_n rfl), fun _ => run_buildS (parts := [(0, .tmp 24), (1, .tmp 28), (2, .tmp 33)]) (cs := [(Value.slice A918 n919 c920), (Value.slice A854 n855 c856), (Value.slice A927 n928 c929)]) tz73 tp73 rfl⟩) ?_
      refine et_one 15 (by kernel_rfl) ?_
      refine eo_exv rfl (wanted_n rfl) rfl rfl (run_boxE (cs := [(Value.slice A918 n919 c920), (Value.slice A854 n855 c856), (Value.slice A927 n928 c929)]) rfl rfl hw) ?_
      rintro w936 _ ⟨b934, rfl, hw⟩
      refine and_keep (SW.mk (HP.le_trans hle917 hle926) hw.drop_0.drop_0.drop_0.drop_0) fun hS => ?_
      refine et_tail rfl ?_
      refine ey_one (i := 17) (by kernel_rfl) ?_
      replace hw := hw.front3
      refine eo_exu rfl (wanted_n rfl) rfl (run_blkSetE (new := List.toArray [(Value.pointer (some ⟨b934, 0, none⟩))]) hw rfl rfl ts69 rfl rfl rfl) ?_
      rintro w937 hw
      refine ey_done rfl ?_
      replace hw := hw.front3
      replace hw := hw.front2
      replace hw := hw.front2
      obtain rfl := Option.some.inj h
      exact ⟨f925, b913, b934, A918, n919, c920, cur921, A854, n855, c856, A927, n928, c929, cur930, (HP.le_trans hle917 hle926), hk922, hs857, hk931, ⟨rfl, rfl, trivial⟩, hw⟩
  · rintro ρ938 w939 ⟨f769, b772, b774, A776, n777, c778, cur779, A782, n783, c784, A786, n787, c788, cur789, hle770, hk780, hs785, hk790, hl771, hw⟩
    first | refine ewp_live hl771 fun ρ940 => ?_ | rw [← hl771.eq]
    replace ho3 := (fOpt fS_mend_solver).mono hle770 ho3
    replace hs8 := hs8.mono hle770
    refine ewp_seq ?_
    refine ewp_seq ?_
    refine ewp_region ?_
    refine el_val (v := (Value.slice A5 n6 c7)) (wanted_n rfl) rfl rfl (run_pev (v := (Value.slice A5 n6 c7)) rfl) ?_
    refine el_val (v := (Value.int .i64 (p4.length : Int))) (wanted_n rfl) rfl rfl (run_lenS te23 rfl hs8.len) ?_
    refine el_val (v := (Value.int .i64 0)) (wanted_n rfl) rfl rfl (run_pev (v := (Value.int .i64 0)) rfl) ?_
    refine el_nil ?_
    obtain ⟨c1104, hc1105, h⟩ := bind_some h
    refine ewp_M (fun ρ' w' => ∃ s1020, c1104 = .go s1020 ∧ ∃ (f1021 : HP) (A1024 : Option Addr) (n1025 : Nat) (c1026 : Nat) (cur1027 : Array Value), HP.le f769 f1021 ∧ ArrOk f1021 (fSl fS_mend_Arc) A1024 n1025 c1026 cur1027 s1020 ∧ Live ρ' [(1, (Value.slice A5 n6 c7)), (6, (Value.pointer (some ⟨b772, 0, none⟩)))] ∧ Wd G w' f1021 (Arr A776 c778 cur779 :: Arr A1024 c1026 cur1027 :: Blk b772 (.cells (List.toArray [(Value.pointer (some ⟨b774, 0, none⟩))]) 69 (0, 0)) :: Blk b774 (.cells (List.toArray [(Value.slice A776 n777 c778), (Value.slice A782 n783 c784), (Value.slice A1024 n1025 c1026)]) 73 (0, 0)) :: L)) noE noX ?_ ?_ ?_ ?_
    · refine ewp_block ?_
      replace hw := hw.front3
      replace hw := hw.front3
      refine ewp_forC (fun (i1106 : Nat) (s1020 : List (List S_mend_Arc)) ρ' w' => ∃ (f1021 : HP) (A1024 : Option Addr) (n1025 : Nat) (c1026 : Nat) (cur1027 : Array Value), HP.le f769 f1021 ∧ ArrOk f1021 (fSl fS_mend_Arc) A1024 n1025 c1026 cur1027 s1020 ∧ Live ρ' [(1, (Value.slice A5 n6 c7)), (6, (Value.pointer (some ⟨b772, 0, none⟩))), (36, (Value.slice A5 n6 c7)), (37, (Value.int .i64 (p4.length : Int))), (38, (Value.int .i64 (i1106 : Int)))] ∧ Wd G w' f1021 (Arr A776 c778 cur779 :: Arr A1024 c1026 cur1027 :: Blk b772 (.cells (List.toArray [(Value.pointer (some ⟨b774, 0, none⟩))]) 69 (0, 0)) :: Blk b774 (.cells (List.toArray [(Value.slice A776 n777 c778), (Value.slice A782 n783 c784), (Value.slice A1024 n1025 c1026)]) 73 (0, 0)) :: L)) hc1105 ⟨f769, A786, n787, c788, cur789, (HP.le_refl _), hk790, ⟨rfl, rfl, rfl, rfl, rfl, trivial⟩, hw⟩ ?_ ?_
      · rintro i1106 x1107 s1020 ct1110 ρ1108 w1109 hx h ⟨f1021, A1024, n1025, c1026, cur1027, hle1022, hk1028, hl1023, hw⟩
        unfold mend_solver_with_v2_b6 at h
        first | refine ewp_live hl1023 fun ρ1111 => ?_ | rw [← hl1023.eq]
        replace ho3 := (fOpt fS_mend_solver).mono hle1022 ho3
        replace hs8 := hs8.mono hle1022
        replace hk780 := hk780.mono hle1022
        replace hs785 := hs785.mono hle1022
        refine ewp_seq ?_
        refine ewp_region ?_
        refine el_val (v := (Value.bool (decide ((i1106 : Int) < (p4.length : Int))))) (wanted_n rfl) rfl rfl (run_pev (v := (Value.bool (decide ((i1106 : Int) < (p4.length : Int))))) rfl) ?_
        refine el_nil ?_
        refine ewp_seq ?_
        refine ewp_cond_t rfl (lt_len hx) ?_
        refine ewp_skip ?_
        refine ewp_seq ?_
        obtain ⟨s1176, hc1185, h⟩ := bind_some h
        refine ewp_N (fun ρ' w' => ∃ (f1177 : HP) (A1180 : Option Addr) (n1181 : Nat) (c1182 : Nat) (cur1183 : Array Value), HP.le f1021 f1177 ∧ ArrOk f1177 (fSl fS_mend_Arc) A1180 n1181 c1182 cur1183 s1176 ∧ Live ρ' [(1, (Value.slice A5 n6 c7)), (6, (Value.pointer (some ⟨b772, 0, none⟩))), (36, (Value.slice A5 n6 c7)), (37, (Value.int .i64 (p4.length : Int))), (38, (Value.int .i64 (i1106 : Int)))] ∧ Wd G w' f1177 (Arr A776 c778 cur779 :: Arr A1180 c1182 cur1183 :: Blk b772 (.cells (List.toArray [(Value.pointer (some ⟨b774, 0, none⟩))]) 69 (0, 0)) :: Blk b774 (.cells (List.toArray [(Value.slice A776 n777 c778), (Value.slice A782 n783 c784), (Value.slice A1180 n1181 c1182)]) 73 (0, 0)) :: L)) ?_ ?_
        · replace h := hc1185
          refine ewp_block ?_
          refine ewp_seq ?_
          refine ewp_region ?_
          obtain ⟨b1186, of1187, es1188, hA1189, hc1190, he1191⟩ := sl_el hs8 (idx_nat hx)
          obtain rfl := fS_mend_Arc.op he1191
          refine el_val (v := (Value.pointer (some (eAdr A5 (((i1106 : Int)).toNat * 3))))) (wanted_n rfl) rfl rfl (run_idx te23 ts34 rfl hs8.len rfl (idx_nat hx) hA1189) ?_
          refine el_val (v := (Value.agg #[(Value.int .i64 x1107.From), (Value.int .i64 x1107.To), (Value.int .i64 x1107.Len)])) (wanted_n rfl) rfl rfl (run_loadN (ad := (eAdr A5 (((i1106 : Int)).toNat * 3))) (cs := [(Value.int .i64 x1107.From), (Value.int .i64 x1107.To), (Value.int .i64 x1107.Len)]) ta34 ts34 rfl rfl (fz_cells hw hc1190)) ?_
          refine el_exv (wanted_n rfl) rfl rfl (run_allocE (cs := [(Value.int .i64 0), (Value.int .i64 0), (Value.int .i64 0)]) tz34 rfl hw) ?_
          rintro w1194 _ ⟨b1192, rfl, hw⟩
          refine el_exu (wanted_n rfl) rfl (run_blkSetE (new := List.toArray [(Value.int .i64 x1107.From), (Value.int .i64 x1107.To), (Value.int .i64 x1107.Len)]) hw rfl rfl ts34 rfl rfl rfl) ?_
          rintro w1195 hw
          refine el_nil ?_
          obtain ⟨x1196, hx1197, h⟩ := bind_some h
          obtain ⟨x1208, hx1209, h⟩ := bind_some h
          obtain ⟨x1222, hx1223, h⟩ := bind_some h
          refine ewp_draw (SW G f1021 (Blk b1192 (.cells (List.toArray [(Value.int .i64 x1107.From), (Value.int .i64 x1107.To), (Value.int .i64 x1107.Len)]) 34 (0, 0)) :: Arr A776 c778 cur779 :: Arr A1024 c1026 cur1027 :: Blk b772 (.cells (List.toArray [(Value.pointer (some ⟨b774, 0, none⟩))]) 69 (0, 0)) :: Blk b774 (.cells (List.toArray [(Value.slice A776 n777 c778), (Value.slice A782 n783 c784), (Value.slice A1024 n1025 c1026)]) 73 (0, 0)) :: L)) [] 18 mixed ?_
          replace hw := hw.drew
          have hS := SW.of hw
          refine et_first (i := 0) (v := (Value.pointer (some ⟨b774, 0, none⟩))) rfl (by kernel_rfl) (fun _ _ _ h => h) rfl rfl (.inl ⟨(wanted_n rfl), fun w9 ⟨f9, hl9, h9⟩ => run_load1 (ad := ⟨b772, 0, none⟩) ta69 rfl (wd_cell 3 h9 rfl rfl)⟩) hS ?_
          refine et_pure (i := 1) (v := (Value.pointer (some ⟨b774, 0, none⟩))) rfl (by kernel_rfl) (fun _ _ _ h => h) rfl rfl (.inl ⟨(wanted_n rfl), fun _ => run_pev (v := (Value.pointer (some ⟨b774, 0, none⟩))) rfl⟩) ?_
          refine et_pure (i := 2) (v := (Value.pointer (some ⟨b774, 2, none⟩))) rfl (by kernel_rfl) (fun _ _ _ h => h) rfl rfl (.inl ⟨(wanted_n rfl), fun _ => run_fieldAddr tf73_2 (o := 0) rfl⟩) ?_
          refine et_first (i := 3) (v := (Value.slice A1024 n1025 c1026)) rfl (by kernel_rfl) (fun _ _ _ h => h) rfl rfl (.inl ⟨(wanted_n rfl), fun w9 ⟨f9, hl9, h9⟩ => run_load1 (ad := ⟨b774, 2, none⟩) ta35 rfl (wd_cell 4 h9 rfl rfl)⟩) hS ?_
          refine et_pure (i := 4) (v := (Value.pointer (some ⟨b1192, 0, none⟩))) rfl (by kernel_rfl) (fun _ _ _ h => h) rfl rfl (.inl ⟨(wanted_n rfl), fun _ => run_fieldAddr tf34_0 (o := 0) rfl⟩) ?_
          refine et_first (i := 5) (v := (Value.int .i64 x1107.From)) rfl (by kernel_rfl) (fun _ _ _ h => h) rfl rfl (.inl ⟨(wanted_n rfl), fun w9 ⟨f9, hl9, h9⟩ => run_load1 (ad := ⟨b1192, 0, none⟩) ta3 rfl (wd_cell 0 h9 rfl rfl)⟩) hS ?_
          refine et_first (i := 6) (v := (Value.pointer (some ⟨b774, 0, none⟩))) rfl (by kernel_rfl) (fun _ _ _ h => h) rfl rfl (.inl ⟨(wanted_n rfl), fun w9 ⟨f9, hl9, h9⟩ => run_load1 (ad := ⟨b772, 0, none⟩) ta69 rfl (wd_cell 3 h9 rfl rfl)⟩) hS ?_
          refine et_pure (i := 7) (v := (Value.pointer (some ⟨b774, 0, none⟩))) rfl (by kernel_rfl) (fun _ _ _ h => h) rfl rfl (.inl ⟨(wanted_n rfl), fun _ => run_pev (v := (Value.pointer (some ⟨b774, 0, none⟩))) rfl⟩) ?_
          refine et_pure (i := 8) (v := (Value.pointer (some ⟨b774, 2, none⟩))) rfl (by kernel_rfl) (fun _ _ _ h => h) rfl rfl (.inl ⟨(wanted_n rfl), fun _ => run_fieldAddr tf73_2 (o := 0) rfl⟩) ?_
          refine et_first (i := 9) (v := (Value.slice A1024 n1025 c1026)) rfl (by kernel_rfl) (fun _ _ _ h => h) rfl rfl (.inl ⟨(wanted_n rfl), fun w9 ⟨f9, hl9, h9⟩ => run_load1 (ad := ⟨b774, 2, none⟩) ta35 rfl (wd_cell 4 h9 rfl rfl)⟩) hS ?_
          refine et_pure (i := 10) (v := (Value.pointer (some ⟨b1192, 0, none⟩))) rfl (by kernel_rfl) (fun _ _ _ h => h) rfl rfl (.inl ⟨(wanted_n rfl), fun _ => run_fieldAddr tf34_0 (o := 0) rfl⟩) ?_
          refine et_first (i := 11) (v := (Value.int .i64 x1107.From)) rfl (by kernel_rfl) (fun _ _ _ h => h) rfl rfl (.inl ⟨(wanted_n rfl), fun w9 ⟨f9, hl9, h9⟩ => run_load1 (ad := ⟨b1192, 0, none⟩) ta3 rfl (wd_cell 0 h9 rfl rfl)⟩) hS ?_
          obtain ⟨b1246, of1247, es1248, hA1249, hc1250, he1251⟩ := arr_el hk1028 hx1197
          obtain ⟨A1252, n1253, c1254, rfl, hs1255⟩ := he1251
          refine et_pure (i := 12) (v := (Value.pointer (some (eAdr A1024 ((x1107.From).toNat * 1))))) rfl (by kernel_rfl) (fun _ _ _ h => h) rfl rfl (.inl ⟨(wanted_n rfl), fun _ => run_idx te35 ts23 rfl hk1028.len rfl hx1197 hA1249⟩) ?_
          refine et_first (i := 13) (v := (Value.slice A1252 n1253 c1254)) rfl (by kernel_rfl) (fun _ _ _ h => h) rfl rfl (.inl ⟨(wanted_n rfl), fun w9 ⟨f9, hl9, h9⟩ => run_load1 (ad := (eAdr A1024 ((x1107.From).toNat * 1))) ta23 rfl (wd_arr 2 h9 rfl hA1249 (hc1250 0 _ rfl))⟩) hS ?_
          refine et_first (i := 15) (v := (Value.agg #[(Value.int .i64 x1107.From), (Value.int .i64 x1107.To), (Value.int .i64 x1107.Len)])) rfl (by kernel_rfl) (fun _ _ _ h => h) rfl rfl (.inl ⟨(wanted_n rfl), fun w9 ⟨f9, hl9, h9⟩ => run_loadN (ad := ⟨b1192, 0, none⟩) (cs := [(Value.int .i64 x1107.From), (Value.int .i64 x1107.To), (Value.int .i64 x1107.Len)]) ta34 ts34 rfl rfl (wd_cells 0 h9 rfl rfl)⟩) hS ?_
          refine et_all [14, 16] (by kernel_rfl) ?_
          intro j1256 hj
          simp only [List.mem_cons, List.not_mem_nil, or_false] at hj
          rcases hj with rfl | rfl
          · refine eo_call rfl (wanted_n rfl) rfl rfl (run_call (vals := (List.toArray [(Value.slice A1252 n1253 c1254)])) rfl cl11 rfl) (slices_Clone_mend_Arc_mend_Arc_v2.calls hw hs1255 hx1209) ?_
            rintro _ w1265 ⟨f1257, A1259, n1260, c1261, cur1262, hle1258, rfl, hk1263, hw⟩
            replace ho3 := (fOpt fS_mend_solver).mono hle1258 ho3
            replace hs8 := hs8.mono hle1258
            replace hk780 := hk780.mono hle1258
            replace hs785 := hs785.mono hle1258
            replace hk1028 := hk1028.mono hle1258
            replace hc1190 := fun j v hv => hcell_le hle1258 (hc1190 j v hv)
            replace hs1255 := hs1255.mono hle1258
            refine and_keep (SW.mk hle1258 hw.drop_0.front4.front4.front4.front4.front4) fun hS => ?_
            refine et_one 16 (by kernel_rfl) ?_
            refine eo_exv rfl (wanted_n rfl) rfl rfl (run_buildSliceE (parts := [(0, .tmp 57)]) (cs := [(Value.int .i64 x1107.From), (Value.int .i64 x1107.To), (Value.int .i64 x1107.Len)]) te23 ts34 tz34 rfl tm34_1 rfl hw) ?_
            rintro w1268 _ ⟨b1266, rfl, hw⟩
            refine and_keep (SW.mk hle1258 hw.drop_0.drop_0.front4.front4.front4.front4.front4) fun hS => ?_
            refine et_one 17 (by kernel_rfl) ?_
            replace hw := hw.front1
            refine eo_exv rfl (wanted_n rfl) rfl rfl (run_arrApp1 (E := fS_mend_Arc) tA23 hw hk1263 rfl rfl (fS_mend_Arc.mk (x := x1107) ) hx1223) ?_
            rintro w1274 _ ⟨A1269, n1270, c1271, cur1272, rfl, hk1273, hw⟩
            refine and_keep (SW.mk hle1258 hw.drop_0.front4.front4.front4.front4.front4) fun hS => ?_
            refine et_tail rfl ?_
            refine ey_one (i := 18) (by kernel_rfl) ?_
            obtain ⟨b1275, of1276, es1277, hA1278, hc1279, he1280⟩ := arr_el hk1028 hx1197
            obtain ⟨A1281, n1282, c1283, rfl, hs1284⟩ := he1280
            refine eo_val (v := (Value.pointer (some (eAdr A1024 ((x1107.From).toNat * 1))))) rfl (wanted_n rfl) rfl rfl (run_idx te35 ts23 rfl hk1028.len rfl hx1197 hA1278) ?_
            refine ey_one (i := 19) (by kernel_rfl) ?_
            obtain ⟨f1285, hle1286, hs1287, hw⟩ := arr_freeze hk1273 hw
            replace ho3 := (fOpt fS_mend_solver).mono hle1286 ho3
            replace hs8 := hs8.mono hle1286
            replace hk780 := hk780.mono hle1286
            replace hs785 := hs785.mono hle1286
            replace hk1028 := hk1028.mono hle1286
            replace hc1190 := fun j v hv => hcell_le hle1286 (hc1190 j v hv)
            replace hs1255 := hs1255.mono hle1286
            replace hs1284 := hs1284.mono hle1286
            replace hw := hw.front2
            refine eo_exu rfl (wanted_n rfl) rfl (run_arrSet (E := fSl fS_mend_Arc) (y := x1222) hw hk1028 hx1197 rfl rfl ts23 rfl ⟨_, _, _, rfl, hs1287⟩) ?_
            rintro w1290 ⟨cur1288, hk1289, hw⟩
            refine ey_done rfl ?_
            replace hw := hw.drop_1
            replace hw := hw.front1
            obtain rfl := Option.some.inj h
            exact ⟨f1285, A1024, n1025, c1026, cur1288, (HP.le_trans hle1258 hle1286), hk1289, ⟨rfl, rfl, rfl, rfl, rfl, trivial⟩, hw⟩
          · refine eo_exv rfl (wanted_n rfl) rfl rfl (run_buildSliceE (parts := [(0, .tmp 57)]) (cs := [(Value.int .i64 x1107.From), (Value.int .i64 x1107.To), (Value.int .i64 x1107.Len)]) te23 ts34 tz34 rfl tm34_1 rfl hw) ?_
            rintro w1293 _ ⟨b1291, rfl, hw⟩
            refine and_keep (SW.mk (HP.le_refl _) hw.drop_0.front4.front4.front4.front4.front4) fun hS => ?_
            refine et_one 14 (by kernel_rfl) ?_
            refine eo_call rfl (wanted_n rfl) rfl rfl (run_call (vals := (List.toArray [(Value.slice A1252 n1253 c1254)])) rfl cl11 rfl) (slices_Clone_mend_Arc_mend_Arc_v2.calls hw hs1255 hx1209) ?_
            rintro _ w1302 ⟨f1294, A1296, n1297, c1298, cur1299, hle1295, rfl, hk1300, hw⟩
            replace ho3 := (fOpt fS_mend_solver).mono hle1295 ho3
            replace hs8 := hs8.mono hle1295
            replace hk780 := hk780.mono hle1295
            replace hs785 := hs785.mono hle1295
            replace hk1028 := hk1028.mono hle1295
            replace hc1190 := fun j v hv => hcell_le hle1295 (hc1190 j v hv)
            replace hs1255 := hs1255.mono hle1295
            refine and_keep (SW.mk hle1295 hw.drop_0.drop_0.front4.front4.front4.front4.front4) fun hS => ?_
            refine et_one 17 (by kernel_rfl) ?_
            replace hw := hw.front1
            replace hw := hw.front1
            refine eo_exv rfl (wanted_n rfl) rfl rfl (run_arrApp1 (E := fS_mend_Arc) tA23 hw hk1300 rfl rfl (fS_mend_Arc.mk (x := x1107) ) hx1223) ?_
            rintro w1308 _ ⟨A1303, n1304, c1305, cur1306, rfl, hk1307, hw⟩
            refine and_keep (SW.mk hle1295 hw.drop_0.front4.front4.front4.front4.front4) fun hS => ?_
            refine et_tail rfl ?_
            refine ey_one (i := 18) (by kernel_rfl) ?_
            obtain ⟨b1309, of1310, es1311, hA1312, hc1313, he1314⟩ := arr_el hk1028 hx1197
            obtain ⟨A1315, n1316, c1317, rfl, hs1318⟩ := he1314
            refine eo_val (v := (Value.pointer (some (eAdr A1024 ((x1107.From).toNat * 1))))) rfl (wanted_n rfl) rfl rfl (run_idx te35 ts23 rfl hk1028.len rfl hx1197 hA1312) ?_
            refine ey_one (i := 19) (by kernel_rfl) ?_
            obtain ⟨f1319, hle1320, hs1321, hw⟩ := arr_freeze hk1307 hw
            replace ho3 := (fOpt fS_mend_solver).mono hle1320 ho3
            replace hs8 := hs8.mono hle1320
            replace hk780 := hk780.mono hle1320
            replace hs785 := hs785.mono hle1320
            replace hk1028 := hk1028.mono hle1320
            replace hc1190 := fun j v hv => hcell_le hle1320 (hc1190 j v hv)
            replace hs1255 := hs1255.mono hle1320
            replace hs1318 := hs1318.mono hle1320
            replace hw := hw.front2
            refine eo_exu rfl (wanted_n rfl) rfl (run_arrSet (E := fSl fS_mend_Arc) (y := x1222) hw hk1028 hx1197 rfl rfl ts23 rfl ⟨_, _, _, rfl, hs1321⟩) ?_
            rintro w1324 ⟨cur1322, hk1323, hw⟩
            refine ey_done rfl ?_
            replace hw := hw.drop_1
            replace hw := hw.front1
            obtain rfl := Option.some.inj h
            exact ⟨f1319, A1024, n1025, c1026, cur1322, (HP.le_trans hle1295 hle1320), hk1323, ⟨rfl, rfl, rfl, rfl, rfl, trivial⟩, hw⟩
        · rintro ρ1325 w1326 ⟨f1177, A1180, n1181, c1182, cur1183, hle1178, hk1184, hl1179, hw⟩
          first | refine ewp_live hl1179 fun ρ1327 => ?_ | rw [← hl1179.eq]
          replace ho3 := (fOpt fS_mend_solver).mono hle1178 ho3
          replace hs8 := hs8.mono hle1178
          replace hk780 := hk780.mono hle1178
          replace hs785 := hs785.mono hle1178
          refine ewp_region ?_
          refine el_val (v := (Value.int .i64 (w64 ((i1106 : Int) + 1)))) (wanted_n rfl) rfl rfl (run_pev (v := (Value.int .i64 (w64 ((i1106 : Int) + 1)))) rfl) ?_
          refine el_val (v := (Value.int .i64 (w64 ((i1106 : Int) + 1)))) (wanted_n rfl) rfl rfl (run_pev (v := (Value.int .i64 (w64 ((i1106 : Int) + 1)))) rfl) ?_
          refine el_nil ?_
          obtain rfl := Option.some.inj h
          exact ⟨_, rfl, f1177, A1180, n1181, c1182, cur1183, (HP.le_trans hle1022 hle1178), hk1184, ⟨rfl, rfl, rfl, rfl, (congrArg (Value.int .i64) (succ_w64 hs8.room hx)), trivial⟩, hw⟩
      · rintro s1020 ρ1328 w1329 hfin1330 ⟨f1021, A1024, n1025, c1026, cur1027, hle1022, hk1028, hl1023, hw⟩
        first | refine ewp_live hl1023 fun ρ1331 => ?_ | rw [← hl1023.eq]
        replace ho3 := (fOpt fS_mend_solver).mono hle1022 ho3
        replace hs8 := hs8.mono hle1022
        replace hk780 := hk780.mono hle1022
        replace hs785 := hs785.mono hle1022
        refine ewp_seq ?_
        refine ewp_region ?_
        refine el_val (v := (Value.bool (decide ((p4.length : Int) < (p4.length : Int))))) (wanted_n rfl) rfl rfl (run_pev (v := (Value.bool (decide ((p4.length : Int) < (p4.length : Int))))) rfl) ?_
        refine el_nil ?_
        refine ewp_seq ?_
        refine ewp_cond_f rfl (nlt_self _) ?_
        refine ewp_exit ?_
        exact ⟨s1020, hfin1330, f1021, A1024, n1025, c1026, cur1027, hle1022, hk1028, ⟨rfl, rfl, trivial⟩, hw⟩
    · rintro ρ1332 w1333 ⟨s1020, rfl, f1021, A1024, n1025, c1026, cur1027, hle1022, hk1028, hl1023, hw⟩
      replace h := on_go h
      first | refine ewp_live hl1023 fun ρ1334 => ?_ | rw [← hl1023.eq]
      replace ho3 := (fOpt fS_mend_solver).mono hle1022 ho3
      replace hs8 := hs8.mono hle1022
      replace hk780 := hk780.mono hle1022
      replace hs785 := hs785.mono hle1022
      refine ewp_seq ?_
      refine ewp_region ?_
      refine el_val (v := (Value.pointer (some ⟨b774, 0, none⟩))) (wanted_n rfl) rfl rfl (run_load1 (ad := ⟨b772, 0, none⟩) ta69 rfl (wd_cell 2 hw rfl rfl)) ?_
      refine el_val (v := (Value.pointer (some ⟨b774, 0, none⟩))) (wanted_n rfl) rfl rfl (run_pev (v := (Value.pointer (some ⟨b774, 0, none⟩))) rfl) ?_
      refine el_val (v := (Value.pointer (some ⟨b774, 0, none⟩))) (wanted_n rfl) rfl rfl (run_fieldAddr tf73_0 (o := 0) rfl) ?_
      refine el_val (v := (Value.slice A776 n777 c778)) (wanted_n rfl) rfl rfl (run_load1 (ad := ⟨b774, 0, none⟩) ta22 rfl (wd_cell 3 hw rfl rfl)) ?_
      refine el_val (v := (Value.int .i64 (s768.1.length : Int))) (wanted_n rfl) rfl rfl (run_lenS te22 rfl hk780.len) ?_
      obtain ⟨x1335, hx1336, h⟩ := bind_some h
      refine el_exv (wanted_n rfl) rfl rfl (run_arrMake (E := fBool) te88 ts4 tb4 tz4 rfl rfl rfl hx1336 hw) ?_
      rintro w1343 _ ⟨A1337, n1338, c1339, cur1340, rfl, hk1341, hw⟩
      refine el_exv (wanted_n rfl) rfl rfl (run_allocE (cs := [(Value.slice none 0 0)]) tz88 rfl hw) ?_
      rintro w1346 _ ⟨b1344, rfl, hw⟩
      refine el_exu (wanted_n rfl) rfl (run_blkSetE (new := List.toArray [(Value.slice A1337 n1338 c1339)]) hw rfl rfl ts88 rfl rfl rfl) ?_
      rintro w1347 hw
      refine el_nil ?_
      refine ewp_seq ?_
      refine ewp_region ?_
      refine el_val (v := (Value.pointer (some ⟨b774, 0, none⟩))) (wanted_n rfl) rfl rfl (run_load1 (ad := ⟨b772, 0, none⟩) ta69 rfl (wd_cell 4 hw rfl rfl)) ?_
      refine el_val (v := (Value.pointer (some ⟨b774, 0, none⟩))) (wanted_n rfl) rfl rfl (run_pev (v := (Value.pointer (some ⟨b774, 0, none⟩))) rfl) ?_
      refine el_val (v := (Value.pointer (some ⟨b774, 0, none⟩))) (wanted_n rfl) rfl rfl (run_fieldAddr tf73_0 (o := 0) rfl) ?_
      refine el_val (v := (Value.slice A776 n777 c778)) (wanted_n rfl) rfl rfl (run_load1 (ad := ⟨b774, 0, none⟩) ta22 rfl (wd_cell 5 hw rfl rfl)) ?_
      refine el_val (v := (Value.int .i64 (s768.1.length : Int))) (wanted_n rfl) rfl rfl (run_lenS te22 rfl hk780.len) ?_
      obtain ⟨x1348, hx1349, h⟩ := bind_some h
      refine el_exv (wanted_n rfl) rfl rfl (run_arrMake (E := fInt .i64) te22 ts3 tb3 tz3 rfl rfl rfl hx1349 hw) ?_
      rintro w1356 _ ⟨A1350, n1351, c1352, cur1353, rfl, hk1354, hw⟩
      refine el_exv (wanted_n rfl) rfl rfl (run_allocE (cs := [(Value.slice none 0 0)]) tz22 rfl hw) ?_
      rintro w1359 _ ⟨b1357, rfl, hw⟩
      refine el_exu (wanted_n rfl) rfl (run_blkSetE (new := List.toArray [(Value.slice A1350 n1351 c1352)]) hw rfl rfl ts22 rfl rfl rfl) ?_
      rintro w1360 hw
      refine el_nil ?_
      refine ewp_seq ?_
      refine ewp_region ?_
      refine el_exv (wanted_n rfl) rfl rfl (run_allocE (cs := [(Value.slice none 0 0)]) tz22 rfl hw) ?_
      rintro w1363 _ ⟨b1361, rfl, hw⟩
      refine el_nil ?_
      refine ewp_seq ?_
      refine ewp_region ?_
      refine el_exv (wanted_n rfl) rfl rfl (run_allocE (cs := [(Value.bool false)]) tz4 rfl hw) ?_
      rintro w1366 _ ⟨b1364, rfl, hw⟩
      refine el_exu (wanted_n rfl) rfl (run_blkSetE (new := List.toArray [(Value.bool true)]) hw rfl rfl ts4 rfl rfl rfl) ?_
      rintro w1367 hw
      refine el_nil ?_
      refine ewp_seq ?_
      refine ewp_region ?_
      refine el_val (v := (Value.func (.func 61) #[] #[(Value.pointer (some ⟨b772, 0, none⟩)), (Value.pointer (some ⟨b1357, 0, none⟩)), (Value.pointer (some ⟨b1364, 0, none⟩)), (Value.pointer (some ⟨b1344, 0, none⟩)), (Value.pointer (some ⟨b1361, 0, none⟩))])) (wanted_n rfl) rfl rfl (run_pev (v := (Value.func (.func 61) #[] #[(Value.pointer (some ⟨b772, 0, none⟩)), (Value.pointer (some ⟨b1357, 0, none⟩)), (Value.pointer (some ⟨b1364, 0, none⟩)), (Value.pointer (some ⟨b1344, 0, none⟩)), (Value.pointer (some ⟨b1361, 0, none⟩))])) rfl) ?_
      refine el_val (v := (Value.func (.func 61) #[] #[(Value.pointer (some ⟨b772, 0, none⟩)), (Value.pointer (some ⟨b1357, 0, none⟩)), (Value.pointer (some ⟨b1364, 0, none⟩)), (Value.pointer (some ⟨b1344, 0, none⟩)), (Value.pointer (some ⟨b1361, 0, none⟩))])) (wanted_n rfl) rfl rfl (run_pev (v := (Value.func (.func 61) #[] #[(Value.pointer (some ⟨b772, 0, none⟩)), (Value.pointer (some ⟨b1357, 0, none⟩)), (Value.pointer (some ⟨b1364, 0, none⟩)), (Value.pointer (some ⟨b1344, 0, none⟩)), (Value.pointer (some ⟨b1361, 0, none⟩))])) rfl) ?_
      refine el_nil ?_
      refine ewp_seq ?_
      refine ewp_seq ?_
      refine ewp_region ?_
      refine el_val (v := (Value.slice A5 n6 c7)) (wanted_n rfl) rfl rfl (run_pev (v := (Value.slice A5 n6 c7)) rfl) ?_
      refine el_val (v := (Value.int .i64 (p4.length : Int))) (wanted_n rfl) rfl rfl (run_lenS te23 rfl hs8.len) ?_
      refine el_val (v := (Value.int .i64 0)) (wanted_n rfl) rfl rfl (run_pev (v := (Value.int .i64 0)) rfl) ?_
      refine el_nil ?_
      obtain ⟨c1454, hc1455, h⟩ := bind_some h
      refine ewp_M (fun ρ' w' => ∃ s1401, c1454 = .go s1401 ∧ ∃ (f1402 : HP) (A1405 : Option Addr) (n1406 : Nat) (c1407 : Nat) (cur1408 : Array Value) (A1410 : Option Addr) (n1411 : Nat) (c1412 : Nat) (cur1413 : Array Value) (A1415 : Option Addr) (n1416 : Nat) (c1417 : Nat) (cur1418 : Array Value) (A1420 : Option Addr) (n1421 : Nat) (c1422 : Nat) (cur1423 : Array Value), HP.le f1021 f1402 ∧ ArrOk f1402 (fInt .i64) A1405 n1406 c1407 cur1408 s1401.1 ∧ ArrOk f1402 fBool A1410 n1411 c1412 cur1413 s1401.2.1 ∧ ArrOk f1402 (fInt .i64) A1415 n1416 c1417 cur1418 s1401.2.2.1 ∧ ArrOk f1402 (fInt .i64) A1420 n1421 c1422 cur1423 s1401.2.2.2.2 ∧ Live ρ' [(6, (Value.pointer (some ⟨b772, 0, none⟩))), (9, (Value.pointer (some ⟨b1344, 0, none⟩))), (11, (Value.pointer (some ⟨b1361, 0, none⟩))), (12, (Value.pointer (some ⟨b1364, 0, none⟩))), (13, (Value.func (.func 61) #[] #[(Value.pointer (some ⟨b772, 0, none⟩)), (Value.pointer (some ⟨b1357, 0, none⟩)), (Value.pointer (some ⟨b1364, 0, none⟩)), (Value.pointer (some ⟨b1344, 0, none⟩)), (Value.pointer (some ⟨b1361, 0, none⟩))]))] ∧ Wd G w' f1402 (Arr A1405 c1407 cur1408 :: Arr A1410 c1412 cur1413 :: Arr A1415 c1417 cur1418 :: Arr A1024 c1026 cur1027 :: Blk b1364 (.cells (List.toArray [(Value.bool s1401.2.2.2.1)]) 4 (0, 0)) :: Arr A1420 c1422 cur1423 :: Blk b1361 (.cells (List.toArray [(Value.slice A1420 n1421 c1422)]) 22 (0, 0)) :: Blk b1357 (.cells (List.toArray [(Value.slice A1405 n1406 c1407)]) 22 (0, 0)) :: Blk b1344 (.cells (List.toArray [(Value.slice A1410 n1411 c1412)]) 88 (0, 0)) :: Blk b772 (.cells (List.toArray [(Value.pointer (some ⟨b774, 0, none⟩))]) 69 (0, 0)) :: Blk b774 (.cells (List.toArray [(Value.slice A1415 n1416 c1417), (Value.slice A782 n783 c784), (Value.slice A1024 n1025 c1026)]) 73 (0, 0)) :: L)) noE noX ?_ ?_ ?_ ?_
      · refine ewp_block ?_
        obtain ⟨hk1459, hw⟩ := wd_arrNil (E := fInt .i64) hw
        replace hw := hw.front1
        replace hw := hw.front8
        replace hw := hw.front8
        replace hw := hw.front8
        replace hw := hw.front7
        refine ewp_forC (fun (i1456 : Nat) (s1401 : List Int × List Bool × List Int × Bool × List Int) ρ' w' => ∃ (f1402 : HP) (A1405 : Option Addr) (n1406 : Nat) (c1407 : Nat) (cur1408 : Array Value) (A1410 : Option Addr) (n1411 : Nat) (c1412 : Nat) (cur1413 : Array Value) (A1415 : Option Addr) (n1416 : Nat) (c1417 : Nat) (cur1418 : Array Value) (A1420 : Option Addr) (n1421 : Nat) (c1422 : Nat) (cur1423 : Array Value), HP.le f1021 f1402 ∧ ArrOk f1402 (fInt .i64) A1405 n1406 c1407 cur1408 s1401.1 ∧ ArrOk f1402 fBool A1410 n1411 c1412 cur1413 s1401.2.1 ∧ ArrOk f1402 (fInt .i64) A1415 n1416 c1417 cur1418 s1401.2.2.1 ∧ ArrOk f1402 (fInt .i64) A1420 n1421 c1422 cur1423 s1401.2.2.2.2 ∧ Live ρ' [(6, (Value.pointer (some ⟨b772, 0, none⟩))), (9, (Value.pointer (some ⟨b1344, 0, none⟩))), (11, (Value.pointer (some ⟨b1361, 0, none⟩))), (12, (Value.pointer (some ⟨b1364, 0, none⟩))), (13, (Value.func (.func 61) #[] #[(Value.pointer (some ⟨b772, 0, none⟩)), (Value.pointer (some ⟨b1357, 0, none⟩)), (Value.pointer (some ⟨b1364, 0, none⟩)), (Value.pointer (some ⟨b1344, 0, none⟩)), (Value.pointer (some ⟨b1361, 0, none⟩))])), (75, (Value.slice A5 n6 c7)), (76, (Value.int .i64 (p4.length : Int))), (77, (Value.int .i64 (i1456 : Int)))] ∧ Wd G w' f1402 (Arr A1405 c1407 cur1408 :: Arr A1410 c1412 cur1413 :: Arr A1415 c1417 cur1418 :: Arr A1024 c1026 cur1027 :: Blk b1364 (.cells (List.toArray [(Value.bool s1401.2.2.2.1)]) 4 (0, 0)) :: Arr A1420 c1422 cur1423 :: Blk b1361 (.cells (List.toArray [(Value.slice A1420 n1421 c1422)]) 22 (0, 0)) :: Blk b1357 (.cells (List.toArray [(Value.slice A1405 n1406 c1407)]) 22 (0, 0)) :: Blk b1344 (.cells (List.toArray [(Value.slice A1410 n1411 c1412)]) 88 (0, 0)) :: Blk b772 (.cells (List.toArray [(Value.pointer (some ⟨b774, 0, none⟩))]) 69 (0, 0)) :: Blk b774 (.cells (List.toArray [(Value.slice A1415 n1416 c1417), (Value.slice A782 n783 c784), (Value.slice A1024 n1025 c1026)]) 73 (0, 0)) :: L)) hc1455 ⟨f1021, A1350, n1351, c1352, cur1353, A1337, n1338, c1339, cur1340, A776, n777, c778, cur779, none, 0, 0, (#[]), (HP.le_refl _), hk1354, hk1341, hk780, hk1459, ⟨rfl, rfl, rfl, rfl, rfl, rfl, rfl, rfl, trivial⟩, hw⟩ ?_ ?_
        · rintro i1456 x1457 s1401 ct1463 ρ1461 w1462 hx h ⟨f1402, A1405, n1406, c1407, cur1408, A1410, n1411, c1412, cur1413, A1415, n1416, c1417, cur1418, A1420, n1421, c1422, cur1423, hle1403, hk1409, hk1414, hk1419, hk1424, hl1404, hw⟩
          unfold mend_solver_with_v2_b7 at h
          first | refine ewp_live hl1404 fun ρ1464 => ?_ | rw [← hl1404.eq]
          replace ho3 := (fOpt fS_mend_solver).mono hle1403 ho3
          replace hs8 := hs8.mono hle1403
          replace hs785 := hs785.mono hle1403
          replace hk1028 := hk1028.mono hle1403
          refine ewp_seq ?_
          refine ewp_region ?_
          refine el_val (v := (Value.bool (decide ((i1456 : Int) < (p4.length : Int))))) (wanted_n rfl) rfl rfl (run_pev (v := (Value.bool (decide ((i1456 : Int) < (p4.length : Int))))) rfl) ?_
          refine el_nil ?_
          refine ewp_seq ?_
          refine ewp_cond_t rfl (lt_len hx) ?_
          refine ewp_skip ?_
          refine ewp_seq ?_
          refine ewp_block ?_
          refine ewp_seq ?_
          refine ewp_region ?_
          obtain ⟨b1465, of1466, es1467, hA1468, hc1469, he1470⟩ := sl_el hs8 (idx_nat hx)
          obtain rfl := fS_mend_Arc.op he1470
          refine el_val (v := (Value.pointer (some (eAdr A5 (((i1456 : Int)).toNat * 3))))) (wanted_n rfl) rfl rfl (run_idx te23 ts34 rfl hs8.len rfl (idx_nat hx) hA1468) ?_
          refine el_val (v := (Value.agg #[(Value.int .i64 x1457.From), (Value.int .i64 x1457.To), (Value.int .i64 x1457.Len)])) (wanted_n rfl) rfl rfl (run_loadN (ad := (eAdr A5 (((i1456 : Int)).toNat * 3))) (cs := [(Value.int .i64 x1457.From), (Value.int .i64 x1457.To), (Value.int .i64 x1457.Len)]) ta34 ts34 rfl rfl (fz_cells hw hc1469)) ?_
          refine el_exv (wanted_n rfl) rfl rfl (run_allocE (cs := [(Value.int .i64 0), (Value.int .i64 0), (Value.int .i64 0)]) tz34 rfl hw) ?_
          rintro w1473 _ ⟨b1471, rfl, hw⟩
          refine el_exu (wanted_n rfl) rfl (run_blkSetE (new := List.toArray [(Value.int .i64 x1457.From), (Value.int .i64 x1457.To), (Value.int .i64 x1457.Len)]) hw rfl rfl ts34 rfl rfl rfl) ?_
          rintro w1474 hw
          refine el_nil ?_
          refine ewp_region ?_
          refine el_val (v := (Value.func (.func 61) #[] #[(Value.pointer (some ⟨b772, 0, none⟩)), (Value.pointer (some ⟨b1357, 0, none⟩)), (Value.pointer (some ⟨b1364, 0, none⟩)), (Value.pointer (some ⟨b1344, 0, none⟩)), (Value.pointer (some ⟨b1361, 0, none⟩))])) (wanted_n rfl) rfl rfl (run_pev (v := (Value.func (.func 61) #[] #[(Value.pointer (some ⟨b772, 0, none⟩)), (Value.pointer (some ⟨b1357, 0, none⟩)), (Value.pointer (some ⟨b1364, 0, none⟩)), (Value.pointer (some ⟨b1344, 0, none⟩)), (Value.pointer (some ⟨b1361, 0, none⟩))])) rfl) ?_
          refine el_val (v := (Value.agg #[(Value.int .i64 x1457.From), (Value.int .i64 x1457.To), (Value.int .i64 x1457.Len)])) (wanted_n rfl) rfl rfl (run_loadN (ad := ⟨b1471, 0, none⟩) (cs := [(Value.int .i64 x1457.From), (Value.int .i64 x1457.To), (Value.int .i64 x1457.Len)]) ta34 ts34 rfl rfl (wd_cells 0 hw rfl rfl)) ?_
          obtain ⟨x1475, hx1476, h⟩ := bind_some h
          replace hw := hw.front6
          replace hw := hw.front7
          replace hw := hw.front4
          replace hw := hw.front9
          replace hw := hw.front8
          replace hw := hw.front6
          replace hw := hw.front9
          replace hw := hw.front9
          replace hw := hw.front9
          replace hw := hw.front11
          replace hw := hw.front11
          refine el_call (wanted_n rfl) rfl rfl (run_call (vals := (List.toArray [(Value.agg #[(Value.int .i64 x1457.From), (Value.int .i64 x1457.To), (Value.int .i64 x1457.Len)]), (Value.pointer (some ⟨b772, 0, none⟩)), (Value.pointer (some ⟨b1357, 0, none⟩)), (Value.pointer (some ⟨b1364, 0, none⟩)), (Value.pointer (some ⟨b1344, 0, none⟩)), (Value.pointer (some ⟨b1361, 0, none⟩))])) rfl cl61 rfl) (mend_solver_with_1_v2.calls hw hk1419 hs785 hk1028 hk1409 hk1414 hk1424 hx1476) ?_
          rintro _ w1490 ⟨f1477, cur1480, cur1482, cur1484, A1487, n1488, c1489, cur1486, hle1478, rfl, hk1479, hk1481, hk1483, hk1485, hw⟩
          replace ho3 := (fOpt fS_mend_solver).mono hle1478 ho3
          replace hs8 := hs8.mono hle1478
          replace hs785 := hs785.mono hle1478
          replace hk1028 := hk1028.mono hle1478
          replace hc1469 := fun j v hv => hcell_le hle1478 (hc1469 j v hv)
          refine el_nil ?_
          refine ewp_region ?_
          refine el_val (v := (Value.int .i64 (w64 ((i1456 : Int) + 1)))) (wanted_n rfl) rfl rfl (run_pev (v := (Value.int .i64 (w64 ((i1456 : Int) + 1)))) rfl) ?_
          refine el_val (v := (Value.int .i64 (w64 ((i1456 : Int) + 1)))) (wanted_n rfl) rfl rfl (run_pev (v := (Value.int .i64 (w64 ((i1456 : Int) + 1)))) rfl) ?_
          refine el_nil ?_
          replace hw := hw.drop_11
          replace hw := hw.front7
          replace hw := hw.front5
          replace hw := hw.front9
          replace hw := hw.front10
          replace hw := hw.front9
          replace hw := hw.front8
          replace hw := hw.front8
          replace hw := hw.front10
          replace hw := hw.front10
          obtain rfl := Option.some.inj h
          exact ⟨_, rfl, f1477, A1405, n1406, c1407, cur1482, A1410, n1411, c1412, cur1484, A1415, n1416, c1417, cur1480, A1487, n1488, c1489, cur1486, (HP.le_trans hle1403 hle1478), hk1481, hk1483, hk1479, hk1485, ⟨rfl, rfl, rfl, rfl, rfl, rfl, rfl, (congrArg (Value.int .i64) (succ_w64 hs8.room hx)), trivial⟩, hw⟩
        · rintro s1401 ρ1491 w1492 hfin1493 ⟨f1402, A1405, n1406, c1407, cur1408, A1410, n1411, c1412, cur1413, A1415, n1416, c1417, cur1418, A1420, n1421, c1422, cur1423, hle1403, hk1409, hk1414, hk1419, hk1424, hl1404, hw⟩
          first | refine ewp_live hl1404 fun ρ1494 => ?_ | rw [← hl1404.eq]
          replace ho3 := (fOpt fS_mend_solver).mono hle1403 ho3
          replace hs8 := hs8.mono hle1403
          replace hs785 := hs785.mono hle1403
          replace hk1028 := hk1028.mono hle1403
          refine ewp_seq ?_
          refine ewp_region ?_
          refine el_val (v := (Value.bool (decide ((p4.length : Int) < (p4.length : Int))))) (wanted_n rfl) rfl rfl (run_pev (v := (Value.bool (decide ((p4.length : Int) < (p4.length : Int))))) rfl) ?_
          refine el_nil ?_
          refine ewp_seq ?_
          refine ewp_cond_f rfl (nlt_self _) ?_
          refine ewp_exit ?_
          exact ⟨s1401, hfin1493, f1402, A1405, n1406, c1407, cur1408, A1410, n1411, c1412, cur1413, A1415, n1416, c1417, cur1418, A1420, n1421, c1422, cur1423, hle1403, hk1409, hk1414, hk1419, hk1424, ⟨rfl, rfl, rfl, rfl, rfl, trivial⟩, hw⟩
      · rintro ρ1495 w1496 ⟨s1401, rfl, f1402, A1405, n1406, c1407, cur1408, A1410, n1411, c1412, cur1413, A1415, n1416, c1417, cur1418, A1420, n1421, c1422, cur1423, hle1403, hk1409, hk1414, hk1419, hk1424, hl1404, hw⟩
        replace h := on_go h
        first | refine ewp_live hl1404 fun ρ1497 => ?_ | rw [← hl1404.eq]
        replace ho3 := (fOpt fS_mend_solver).mono hle1403 ho3
        replace hs8 := hs8.mono hle1403
        replace hs785 := hs785.mono hle1403
        replace hk1028 := hk1028.mono hle1403
        refine ewp_seq ?_
        refine ewp_region ?_
        refine el_val (v := (Value.pointer (some ⟨b774, 0, none⟩))) (wanted_n rfl) rfl rfl (run_load1 (ad := ⟨b772, 0, none⟩) ta69 rfl (wd_cell 9 hw rfl rfl)) ?_
        obtain ⟨x1498, hx1499, h⟩ := bind_some h
        replace hw := hw.front3
        replace hw := hw.front3
        replace hw := hw.front10
        refine el_call (wanted_n rfl) rfl rfl (run_call (vals := (List.toArray [(Value.pointer (some ⟨b774, 0, none⟩))])) rfl cl62 rfl) (mend_solver_bound.calls hw hk1419 hs785 hk1028 hx1499) ?_
        rintro _ w1502 ⟨f1500, hle1501, rfl, hw⟩
        replace ho3 := (fOpt fS_mend_solver).mono hle1501 ho3
        replace hs8 := hs8.mono hle1501
        replace hs785 := hs785.mono hle1501
        replace hk1028 := hk1028.mono hle1501
        replace hk1409 := hk1409.mono hle1501
        replace hk1414 := hk1414.mono hle1501
        replace hk1419 := hk1419.mono hle1501
        replace hk1424 := hk1424.mono hle1501
        refine el_val (v := (Value.int .i64 x1498)) (wanted_n rfl) rfl rfl (run_pev (v := (Value.int .i64 x1498)) rfl) ?_
        refine el_nil ?_
        refine ewp_seq ?_
        obtain ⟨c1841, hc1842, h⟩ := bind_some h
        refine ewp_M (fun ρ' w' => ∃ s1817, c1841 = .go s1817 ∧ ∃ (f1818 : HP) (A1821 : Option Addr) (n1822 : Nat) (c1823 : Nat) (cur1824 : Array Value) (A1826 : Option Addr) (n1827 : Nat) (c1828 : Nat) (cur1829 : Array Value) (A1831 : Option Addr) (n1832 : Nat) (c1833 : Nat) (cur1834 : Array Value) (A1836 : Option Addr) (n1837 : Nat) (c1838 : Nat) (cur1839 : Array Value), HP.le f1500 f1818 ∧ ArrOk f1818 (fInt .i64) A1821 n1822 c1823 cur1824 s1817.1 ∧ ArrOk f1818 (fInt .i64) A1826 n1827 c1828 cur1829 s1817.2.1 ∧ ArrOk f1818 fBool A1831 n1832 c1833 cur1834 s1817.2.2.1 ∧ ArrOk f1818 (fInt .i64) A1836 n1837 c1838 cur1839 s1817.2.2.2.1 ∧ Live ρ' [(6, (Value.pointer (some ⟨b772, 0, none⟩))), (12, (Value.pointer (some ⟨b1364, 0, none⟩)))] ∧ Wd G w' f1818 (Arr A1821 c1823 cur1824 :: Arr A1024 c1026 cur1027 :: Arr A1826 c1828 cur1829 :: Arr A1831 c1833 cur1834 :: Arr A1836 c1838 cur1839 :: Blk b774 (.cells (List.toArray [(Value.slice A1821 n1822 c1823), (Value.slice A782 n783 c784), (Value.slice A1024 n1025 c1026)]) 73 (0, 0)) :: Blk b1364 (.cells (List.toArray [(Value.bool s1817.2.2.2.2)]) 4 (0, 0)) :: Blk b1361 (.cells (List.toArray [(Value.slice A1836 n1837 c1838)]) 22 (0, 0)) :: Blk b1357 (.cells (List.toArray [(Value.slice A1826 n1827 c1828)]) 22 (0, 0)) :: Blk b1344 (.cells (List.toArray [(Value.slice A1831 n1832 c1833)]) 88 (0, 0)) :: Blk b772 (.cells (List.toArray [(Value.pointer (some ⟨b774, 0, none⟩))]) 69 (0, 0)) :: L)) (fun ρ' w' => ∃ x_, c1841 = .out x_ ∧ (x_ = r → RetPost Try.prog Try.f41 (mend_solver_with_v2.R G f L v2 A5 n6 c7 p1 p4 r) .ret ρ' w')) noX ?_ ?_ ?_ ?_
        · refine ewp_block ?_
          replace hw := hw.front6
          replace hw := hw.front5
          replace hw := hw.front5
          replace hw := hw.front5
          replace hw := hw.front5
          refine ewp_iter (fun (s1648 : List Int × List Int × List Bool × List Int × Bool) ρ' w' => ∃ (f1649 : HP) (A1652 : Option Addr) (n1653 : Nat) (c1654 : Nat) (cur1655 : Array Value) (A1657 : Option Addr) (n1658 : Nat) (c1659 : Nat) (cur1660 : Array Value) (A1662 : Option Addr) (n1663 : Nat) (c1664 : Nat) (cur1665 : Array Value) (A1667 : Option Addr) (n1668 : Nat) (c1669 : Nat) (cur1670 : Array Value), HP.le f1500 f1649 ∧ ArrOk f1649 (fInt .i64) A1652 n1653 c1654 cur1655 s1648.1 ∧ ArrOk f1649 (fInt .i64) A1657 n1658 c1659 cur1660 s1648.2.1 ∧ ArrOk f1649 fBool A1662 n1663 c1664 cur1665 s1648.2.2.1 ∧ ArrOk f1649 (fInt .i64) A1667 n1668 c1669 cur1670 s1648.2.2.2.1 ∧ Live ρ' [(6, (Value.pointer (some ⟨b772, 0, none⟩))), (9, (Value.pointer (some ⟨b1344, 0, none⟩))), (11, (Value.pointer (some ⟨b1361, 0, none⟩))), (12, (Value.pointer (some ⟨b1364, 0, none⟩))), (13, (Value.func (.func 61) #[] #[(Value.pointer (some ⟨b772, 0, none⟩)), (Value.pointer (some ⟨b1357, 0, none⟩)), (Value.pointer (some ⟨b1364, 0, none⟩)), (Value.pointer (some ⟨b1344, 0, none⟩)), (Value.pointer (some ⟨b1361, 0, none⟩))])), (16, (Value.int .i64 x1498))] ∧ Wd G w' f1649 (Arr A1652 c1654 cur1655 :: Arr A1024 c1026 cur1027 :: Arr A1657 c1659 cur1660 :: Arr A1662 c1664 cur1665 :: Arr A1667 c1669 cur1670 :: Blk b774 (.cells (List.toArray [(Value.slice A1652 n1653 c1654), (Value.slice A782 n783 c784), (Value.slice A1024 n1025 c1026)]) 73 (0, 0)) :: Blk b1364 (.cells (List.toArray [(Value.bool s1648.2.2.2.2)]) 4 (0, 0)) :: Blk b1361 (.cells (List.toArray [(Value.slice A1667 n1668 c1669)]) 22 (0, 0)) :: Blk b1357 (.cells (List.toArray [(Value.slice A1657 n1658 c1659)]) 22 (0, 0)) :: Blk b1344 (.cells (List.toArray [(Value.slice A1662 n1663 c1664)]) 88 (0, 0)) :: Blk b772 (.cells (List.toArray [(Value.pointer (some ⟨b774, 0, none⟩))]) 69 (0, 0)) :: L)) hc1842 ⟨f1500, A1415, n1416, c1417, cur1418, A1405, n1406, c1407, cur1408, A1410, n1411, c1412, cur1413, A1420, n1421, c1422, cur1423, (HP.le_refl _), hk1419, hk1409, hk1414, hk1424, ⟨rfl, rfl, rfl, rfl, rfl, rfl, trivial⟩, hw⟩ ?_
          rintro s1648 ct1847 ρ1845 w1846 h ⟨f1649, A1652, n1653, c1654, cur1655, A1657, n1658, c1659, cur1660, A1662, n1663, c1664, cur1665, A1667, n1668, c1669, cur1670, hle1650, hk1656, hk1661, hk1666, hk1671, hl1651, hw⟩
          unfold mend_solver_with_v2_b10 at h
          first | refine ewp_live hl1651 fun ρ1848 => ?_ | rw [← hl1651.eq]
          replace ho3 := (fOpt fS_mend_solver).mono hle1650 ho3
          replace hs8 := hs8.mono hle1650
          replace hs785 := hs785.mono hle1650
          replace hk1028 := hk1028.mono hle1650
          refine ewp_seq ?_
          refine ewp_seq ?_
          obtain ⟨s1854, hc1858, h⟩ := bind_some h
          refine ewp_N (fun ρ' w' => ∃ (f1855 : HP), HP.le f1649 f1855 ∧ Live ρ' [(6, (Value.pointer (some ⟨b772, 0, none⟩))), (9, (Value.pointer (some ⟨b1344, 0, none⟩))), (11, (Value.pointer (some ⟨b1361, 0, none⟩))), (12, (Value.pointer (some ⟨b1364, 0, none⟩))), (13, (Value.func (.func 61) #[] #[(Value.pointer (some ⟨b772, 0, none⟩)), (Value.pointer (some ⟨b1357, 0, none⟩)), (Value.pointer (some ⟨b1364, 0, none⟩)), (Value.pointer (some ⟨b1344, 0, none⟩)), (Value.pointer (some ⟨b1361, 0, none⟩))])), (16, (Value.int .i64 x1498)), (92, (Value.bool s1854))] ∧ Wd G w' f1855 (Arr A1652 c1654 cur1655 :: Arr A1024 c1026 cur1027 :: Arr A1657 c1659 cur1660 :: Arr A1662 c1664 cur1665 :: Arr A1667 c1669 cur1670 :: Blk b774 (.cells (List.toArray [(Value.slice A1652 n1653 c1654), (Value.slice A782 n783 c784), (Value.slice A1024 n1025 c1026)]) 73 (0, 0)) :: Blk b1364 (.cells (List.toArray [(Value.bool s1648.2.2.2.2)]) 4 (0, 0)) :: Blk b1361 (.cells (List.toArray [(Value.slice A1667 n1668 c1669)]) 22 (0, 0)) :: Blk b1357 (.cells (List.toArray [(Value.slice A1657 n1658 c1659)]) 22 (0, 0)) :: Blk b1344 (.cells (List.toArray [(Value.slice A1662 n1663 c1664)]) 88 (0, 0)) :: Blk b772 (.cells (List.toArray [(Value.pointer (some ⟨b774, 0, none⟩))]) 69 (0, 0)) :: L)) ?_ ?_
          · replace h := hc1858
            refine ewp_region ?_
            refine el_val (v := (Value.slice A1667 n1668 c1669)) (wanted_n rfl) rfl rfl (run_load1 (ad := ⟨b1361, 0, none⟩) ta22 rfl (wd_cell 7 hw rfl rfl)) ?_
            refine el_val (v := (Value.int .i64 (s1648.2.2.2.1.length : Int))) (wanted_n rfl) rfl rfl (run_lenS te22 rfl hk1671.len) ?_
            refine el_val (v := (Value.bool (decide ((s1648.2.2.2.1.length : Int) > 0)))) (wanted_n rfl) rfl rfl (run_pev (v := (Value.bool (decide ((s1648.2.2.2.1.length : Int) > 0)))) rfl) ?_
            refine el_val (v := (Value.bool (decide ((s1648.2.2.2.1.length : Int) > 0)))) (wanted_n rfl) rfl rfl (run_pev (v := (Value.bool (decide ((s1648.2.2.2.1.length : Int) > 0)))) rfl) ?_
            rcases Bool.eq_false_or_eq_true (decide ((s1648.2.2.2.1.length : Int) > 0)) with hb1859 | hb1859
            · replace h := ifb_t hb1859 h
              refine el_val (v := (Value.bool s1648.2.2.2.2)) (wanted_y rfl rfl rfl hb1859) rfl rfl (run_load1 (ad := ⟨b1364, 0, none⟩) ta4 rfl (wd_cell 6 hw rfl rfl)) ?_
              refine el_val (v := (Value.bool s1648.2.2.2.2)) (wanted_n rfl) rfl rfl (run_pick_t rfl hb1859 rfl) ?_
              refine el_nil ?_
              obtain rfl := Option.some.inj h
              exact ⟨f1649, (HP.le_refl _), ⟨rfl, rfl, rfl, rfl, rfl, rfl, rfl, trivial⟩, hw⟩
            · replace h := ifb_f hb1859 h
              refine el_pass (wanted_f rfl rfl rfl hb1859) rfl rfl ?_
              refine el_val (v := (Value.bool false)) (wanted_n rfl) rfl rfl (run_pick_f rfl hb1859 rfl) ?_
              refine el_nil ?_
              obtain rfl := Option.some.inj h
              exact ⟨f1649, (HP.le_refl _), ⟨rfl, rfl, rfl, rfl, rfl, rfl, rfl, trivial⟩, hw⟩
          · rintro ρ1860 w1861 ⟨f1855, hle1856, hl1857, hw⟩
            first | refine ewp_live hl1857 fun ρ1862 => ?_ | rw [← hl1857.eq]
            replace ho3 := (fOpt fS_mend_solver).mono hle1856 ho3
            replace hs8 := hs8.mono hle1856
            replace hs785 := hs785.mono hle1856
            replace hk1028 := hk1028.mono hle1856
            replace hk1656 := hk1656.mono hle1856
            replace hk1661 := hk1661.mono hle1856
            replace hk1666 := hk1666.mono hle1856
            replace hk1671 := hk1671.mono hle1856
            refine ewp_cond s1854 rfl (fun hb1863 => ?_) (fun hb1863 => ?_)
            · replace h := ifb_t hb1863 h
              refine ewp_skip ?_
              refine ewp_block ?_
              refine ewp_seq ?_
              refine ewp_region ?_
              refine el_val (v := (Value.slice A1667 n1668 c1669)) (wanted_n rfl) rfl rfl (run_load1 (ad := ⟨b1361, 0, none⟩) ta22 rfl (wd_cell 7 hw rfl rfl)) ?_
              obtain ⟨x1864, hx1865, h⟩ := bind_some h
              obtain ⟨b1866, of1867, es1868, hA1869, hc1870, he1871⟩ := arr_el hk1671 hx1865
              obtain rfl : es1868 = _ := he1871
              refine el_val (v := (Value.pointer (some (eAdr A1667 (((0 : Int)).toNat * 1))))) (wanted_n rfl) rfl rfl (run_idx te22 ts3 rfl hk1671.len rfl hx1865 hA1869) ?_
              refine el_val (v := (Value.int .i64 x1864)) (wanted_n rfl) rfl rfl (run_load1 (ad := (eAdr A1667 (((0 : Int)).toNat * 1))) ta3 rfl (wd_arr 4 hw rfl hA1869 (hc1870 0 _ rfl))) ?_
              refine el_val (v := (Value.int .i64 x1864)) (wanted_n rfl) rfl rfl (run_pev (v := (Value.int .i64 x1864)) rfl) ?_
              refine el_nil ?_
              refine ewp_seq ?_
              refine ewp_region ?_
              refine el_val (v := (Value.slice A1667 n1668 c1669)) (wanted_n rfl) rfl rfl (run_load1 (ad := ⟨b1361, 0, none⟩) ta22 rfl (wd_cell 7 hw rfl rfl)) ?_
              obtain ⟨x1872, hx1873, h⟩ := bind_some h
              replace hw := hw.front4
              have hlen_ := hk1671.len
              have hle_ := hk1671.le
              obtain ⟨cur1874, hk1875, hw⟩ := arr_cut hk1671 hx1873 hw
              refine el_val (v := (Value.slice (cutA A1667 1 ((1 : Int)).toNat c1669) (((s1648.2.2.2.1.length : Int)).toNat - ((1 : Int)).toNat) (c1669 - ((1 : Int)).toNat))) (wanted_n rfl) rfl rfl (run_cut (l := (1 : Int)) (k := (s1648.2.2.2.1.length : Int)) te22 ts3 rfl hlen_ hle_ hx1873 (.inr ⟨_, rfl, rfl⟩) (.inl ⟨rfl, rfl⟩)) ?_
              replace hw := hw.front7
              refine el_exu (wanted_n rfl) rfl (run_blkSetE (new := List.toArray [(Value.slice (cutA A1667 1 ((1 : Int)).toNat c1669) (((s1648.2.2.2.1.length : Int)).toNat - ((1 : Int)).toNat) (c1669 - ((1 : Int)).toNat))]) hw rfl rfl ts22 rfl rfl rfl) ?_
              rintro w1876 hw
              refine el_nil ?_
              refine ewp_seq ?_
              refine ewp_region ?_
              refine el_val (v := (Value.slice A1662 n1663 c1664)) (wanted_n rfl) rfl rfl (run_load1 (ad := ⟨b1344, 0, none⟩) ta88 rfl (wd_cell 9 hw rfl rfl)) ?_
              refine el_val (v := (Value.int .i64 x1864)) (wanted_n rfl) rfl rfl (run_pev (v := (Value.int .i64 x1864)) rfl) ?_
              obtain ⟨x1877, hx1878, h⟩ := bind_some h
              obtain ⟨b1879, of1880, es1881, hA1882, hc1883, he1884⟩ := arr_el hk1666 hx1878
              obtain rfl : es1881 = _ := he1884
              refine el_val (v := (Value.pointer (some (eAdr A1662 ((x1864).toNat * 1))))) (wanted_n rfl) rfl rfl (run_idx te88 ts4 rfl hk1666.len rfl hx1878 hA1882) ?_
              replace hw := hw.front5
              refine el_exu (wanted_n rfl) rfl (run_arrSet (E := fBool) (y := false) hw hk1666 hx1878 rfl rfl ts4 rfl rfl) ?_
              rintro w1887 ⟨cur1885, hk1886, hw⟩
              refine el_nil ?_
              refine ewp_seq ?_
              refine ewp_seq ?_
              refine ewp_region ?_
              refine el_val (v := (Value.pointer (some ⟨b774, 0, none⟩))) (wanted_n rfl) rfl rfl (run_load1 (ad := ⟨b772, 0, none⟩) ta69 rfl (wd_cell 10 hw rfl rfl)) ?_
              refine el_val (v := (Value.pointer (some ⟨b774, 0, none⟩))) (wanted_n rfl) rfl rfl (run_pev (v := (Value.pointer (some ⟨b774, 0, none⟩))) rfl) ?_
              refine el_val (v := (Value.pointer (some ⟨b774, 0, none⟩))) (wanted_n rfl) rfl rfl (run_fieldAddr tf73_0 (o := 0) rfl) ?_
              refine el_val (v := (Value.slice A1652 n1653 c1654)) (wanted_n rfl) rfl rfl (run_load1 (ad := ⟨b774, 0, none⟩) ta22 rfl (wd_cell 6 hw rfl rfl)) ?_
              refine el_val (v := (Value.int .i64 x1864)) (wanted_n rfl) rfl rfl (run_pev (v := (Value.int .i64 x1864)) rfl) ?_
              obtain ⟨x1888, hx1889, h⟩ := bind_some h
              obtain ⟨b1890, of1891, es1892, hA1893, hc1894, he1895⟩ := arr_el hk1656 hx1889
              obtain rfl : es1892 = _ := he1895
              refine el_val (v := (Value.pointer (some (eAdr A1652 ((x1864).toNat * 1))))) (wanted_n rfl) rfl rfl (run_idx te22 ts3 rfl hk1656.len rfl hx1889 hA1893) ?_
              refine el_val (v := (Value.int .i64 x1888)) (wanted_n rfl) rfl rfl (run_load1 (ad := (eAdr A1652 ((x1864).toNat * 1))) ta3 rfl (wd_arr 3 hw rfl hA1893 (hc1894 0 _ rfl))) ?_
              refine el_val (v := (Value.int .i64 x1498)) (wanted_n rfl) rfl rfl (run_pev (v := (Value.int .i64 x1498)) rfl) ?_
              refine el_val (v := (Value.bool (decide (x1888 > x1498)))) (wanted_n rfl) rfl rfl (run_pev (v := (Value.bool (decide (x1888 > x1498)))) rfl) ?_
              refine el_nil ?_
              refine ewp_cond (decide (x1888 > x1498)) rfl (fun hb1896 => ?_) (fun hb1896 => ?_)
              · replace h := ifb_t hb1896 h
                refine ewp_seq ?_
                refine ewp_region ?_
                refine el_val (v := (Value.pointer none)) (wanted_n rfl) rfl rfl (run_pev (v := (Value.pointer none)) rfl) ?_
                refine el_val (v := (Value.bool false)) (wanted_n rfl) rfl rfl (run_pev (v := (Value.bool false)) rfl) ?_
                refine el_nil ?_
                refine ewp_ret ?_
                replace hw := hw.drop_0
                replace hw := hw.drop_0
                replace hw := hw.drop_0
                replace hw := hw.drop_0
                replace hw := hw.drop_0
                replace hw := hw.drop_0
                replace hw := hw.drop_0
                replace hw := hw.drop_0
                replace hw := hw.drop_0
                replace hw := hw.drop_0
                replace hw := hw.drop_0
                obtain rfl := Option.some.inj h
                refine ⟨_, rfl, fun hf => ⟨_, hf, fun hr => ?_⟩⟩
                subst hr
                exact ⟨_, res2 rfl, f1855, (Value.pointer none), (HP.le_trans (HP.le_trans (HP.le_trans (HP.le_trans (HP.le_trans hle770 hle1022) hle1403) hle1501) hle1650) hle1856), rfl, rfl, hw⟩
              · replace h := ifb_f hb1896 h
                refine ewp_skip ?_
                refine ewp_seq ?_
                refine ewp_region ?_
                refine el_val (v := (Value.pointer (some ⟨b774, 0, none⟩))) (wanted_n rfl) rfl rfl (run_load1 (ad := ⟨b772, 0, none⟩) ta69 rfl (wd_cell 10 hw rfl rfl)) ?_
                refine el_val (v := (Value.pointer (some ⟨b774, 0, none⟩))) (wanted_n rfl) rfl rfl (run_pev (v := (Value.pointer (some ⟨b774, 0, none⟩))) rfl) ?_
                refine el_val (v := (Value.pointer (some ⟨b774, 2, none⟩))) (wanted_n rfl) rfl rfl (run_fieldAddr tf73_2 (o := 0) rfl) ?_
                refine el_val (v := (Value.slice A1024 n1025 c1026)) (wanted_n rfl) rfl rfl (run_load1 (ad := ⟨b774, 2, none⟩) ta35 rfl (wd_cell 6 hw rfl rfl)) ?_
                refine el_val (v := (Value.int .i64 x1864)) (wanted_n rfl) rfl rfl (run_pev (v := (Value.int .i64 x1864)) rfl) ?_
                obtain ⟨x1897, hx1898, h⟩ := bind_some h
                obtain ⟨b1899, of1900, es1901, hA1902, hc1903, he1904⟩ := arr_el hk1028 hx1898
                obtain ⟨A1905, n1906, c1907, rfl, hs1908⟩ := he1904
                refine el_val (v := (Value.pointer (some (eAdr A1024 ((x1864).toNat * 1))))) (wanted_n rfl) rfl rfl (run_idx te35 ts23 rfl hk1028.len rfl hx1898 hA1902) ?_
                refine el_val (v := (Value.slice A1905 n1906 c1907)) (wanted_n rfl) rfl rfl (run_load1 (ad := (eAdr A1024 ((x1864).toNat * 1))) ta23 rfl (wd_arr 4 hw rfl hA1902 (hc1903 0 _ rfl))) ?_
                refine el_val (v := (Value.int .i64 (x1897.length : Int))) (wanted_n rfl) rfl rfl (run_lenS te23 rfl hs1908.len) ?_
                refine el_val (v := (Value.int .i64 0)) (wanted_n rfl) rfl rfl (run_pev (v := (Value.int .i64 0)) rfl) ?_
                refine el_nil ?_
                obtain ⟨c1993, hc1994, h⟩ := bind_some h
                refine ewp_M (fun ρ' w' => ∃ s1941, c1993 = .go s1941 ∧ ∃ (f1942 : HP) (A1945 : Option Addr) (n1946 : Nat) (c1947 : Nat) (cur1948 : Array Value) (A1950 : Option Addr) (n1951 : Nat) (c1952 : Nat) (cur1953 : Array Value) (A1955 : Option Addr) (n1956 : Nat) (c1957 : Nat) (cur1958 : Array Value) (A1960 : Option Addr) (n1961 : Nat) (c1962 : Nat) (cur1963 : Array Value), HP.le f1855 f1942 ∧ ArrOk f1942 fBool A1945 n1946 c1947 cur1948 s1941.1 ∧ ArrOk f1942 (fInt .i64) A1950 n1951 c1952 cur1953 s1941.2.1 ∧ ArrOk f1942 (fInt .i64) A1955 n1956 c1957 cur1958 s1941.2.2.1 ∧ ArrOk f1942 (fInt .i64) A1960 n1961 c1962 cur1963 s1941.2.2.2.1 ∧ Live ρ' [(6, (Value.pointer (some ⟨b772, 0, none⟩))), (9, (Value.pointer (some ⟨b1344, 0, none⟩))), (11, (Value.pointer (some ⟨b1361, 0, none⟩))), (12, (Value.pointer (some ⟨b1364, 0, none⟩))), (13, (Value.func (.func 61) #[] #[(Value.pointer (some ⟨b772, 0, none⟩)), (Value.pointer (some ⟨b1357, 0, none⟩)), (Value.pointer (some ⟨b1364, 0, none⟩)), (Value.pointer (some ⟨b1344, 0, none⟩)), (Value.pointer (some ⟨b1361, 0, none⟩))])), (16, (Value.int .i64 x1498))] ∧ Wd G w' f1942 (Arr A1945 c1947 cur1948 :: Arr A1950 c1952 cur1953 :: Arr A1955 c1957 cur1958 :: Arr A1024 c1026 cur1027 :: Arr A1960 c1962 cur1963 :: Blk b1361 (.cells (List.toArray [(Value.slice A1950 n1951 c1952)]) 22 (0, 0)) :: Blk b774 (.cells (List.toArray [(Value.slice A1955 n1956 c1957), (Value.slice A782 n783 c784), (Value.slice A1024 n1025 c1026)]) 73 (0, 0)) :: Blk b1364 (.cells (List.toArray [(Value.bool s1941.2.2.2.2)]) 4 (0, 0)) :: Blk b1357 (.cells (List.toArray [(Value.slice A1960 n1961 c1962)]) 22 (0, 0)) :: Blk b1344 (.cells (List.toArray [(Value.slice A1945 n1946 c1947)]) 88 (0, 0)) :: Blk b772 (.cells (List.toArray [(Value.pointer (some ⟨b774, 0, none⟩))]) 69 (0, 0)) :: L)) noE noX ?_ ?_ ?_ ?_
                · refine ewp_block ?_
                  replace hw := hw.front5
                  replace hw := hw.front5
                  replace hw := hw.front5
                  replace hw := hw.front5
                  replace hw := hw.front4
                  refine ewp_forC (fun (i1995 : Nat) (s1941 : List Bool × List Int × List Int × List Int × Bool) ρ' w' => ∃ (f1942 : HP) (A1945 : Option Addr) (n1946 : Nat) (c1947 : Nat) (cur1948 : Array Value) (A1950 : Option Addr) (n1951 : Nat) (c1952 : Nat) (cur1953 : Array Value) (A1955 : Option Addr) (n1956 : Nat) (c1957 : Nat) (cur1958 : Array Value) (A1960 : Option Addr) (n1961 : Nat) (c1962 : Nat) (cur1963 : Array Value), HP.le f1855 f1942 ∧ ArrOk f1942 fBool A1945 n1946 c1947 cur1948 s1941.1 ∧ ArrOk f1942 (fInt .i64) A1950 n1951 c1952 cur1953 s1941.2.1 ∧ ArrOk f1942 (fInt .i64) A1955 n1956 c1957 cur1958 s1941.2.2.1 ∧ ArrOk f1942 (fInt .i64) A1960 n1961 c1962 cur1963 s1941.2.2.2.1 ∧ Live ρ' [(6, (Value.pointer (some ⟨b772, 0, none⟩))), (9, (Value.pointer (some ⟨b1344, 0, none⟩))), (11, (Value.pointer (some ⟨b1361, 0, none⟩))), (12, (Value.pointer (some ⟨b1364, 0, none⟩))), (13, (Value.func (.func 61) #[] #[(Value.pointer (some ⟨b772, 0, none⟩)), (Value.pointer (some ⟨b1357, 0, none⟩)), (Value.pointer (some ⟨b1364, 0, none⟩)), (Value.pointer (some ⟨b1344, 0, none⟩)), (Value.pointer (some ⟨b1361, 0, none⟩))])), (16, (Value.int .i64 x1498)), (116, (Value.slice A1905 n1906 c1907)), (117, (Value.int .i64 (x1897.length : Int))), (118, (Value.int .i64 (i1995 : Int)))] ∧ Wd G w' f1942 (Arr A1945 c1947 cur1948 :: Arr A1950 c1952 cur1953 :: Arr A1955 c1957 cur1958 :: Arr A1024 c1026 cur1027 :: Arr A1960 c1962 cur1963 :: Blk b1361 (.cells (List.toArray [(Value.slice A1950 n1951 c1952)]) 22 (0, 0)) :: Blk b774 (.cells (List.toArray [(Value.slice A1955 n1956 c1957), (Value.slice A782 n783 c784), (Value.slice A1024 n1025 c1026)]) 73 (0, 0)) :: Blk b1364 (.cells (List.toArray [(Value.bool s1941.2.2.2.2)]) 4 (0, 0)) :: Blk b1357 (.cells (List.toArray [(Value.slice A1960 n1961 c1962)]) 22 (0, 0)) :: Blk b1344 (.cells (List.toArray [(Value.slice A1945 n1946 c1947)]) 88 (0, 0)) :: Blk b772 (.cells (List.toArray [(Value.pointer (some ⟨b774, 0, none⟩))]) 69 (0, 0)) :: L)) hc1994 ⟨f1855, A1662, n1663, c1664, cur1885, (cutA A1667 1 ((1 : Int)).toNat c1669), (((s1648.2.2.2.1.length : Int)).toNat - ((1 : Int)).toNat), (c1669 - ((1 : Int)).toNat), cur1874, A1652, n1653, c1654, cur1655, A1657, n1658, c1659, cur1660, (HP.le_refl _), hk1886, hk1875, hk1656, hk1661, ⟨rfl, rfl, rfl, rfl, rfl, rfl, rfl, rfl, rfl, trivial⟩, hw⟩ ?_ ?_
                  · rintro i1995 x1996 s1941 ct1999 ρ1997 w1998 hx h ⟨f1942, A1945, n1946, c1947, cur1948, A1950, n1951, c1952, cur1953, A1955, n1956, c1957, cur1958, A1960, n1961, c1962, cur1963, hle1943, hk1949, hk1954, hk1959, hk1964, hl1944, hw⟩
                    unfold mend_solver_with_v2_b11 at h
                    first | refine ewp_live hl1944 fun ρ2000 => ?_ | rw [← hl1944.eq]
                    replace ho3 := (fOpt fS_mend_solver).mono hle1943 ho3
                    replace hs8 := hs8.mono hle1943
                    replace hs785 := hs785.mono hle1943
                    replace hk1028 := hk1028.mono hle1943
                    replace hs1908 := hs1908.mono hle1943
                    refine ewp_seq ?_
                    refine ewp_region ?_
                    refine el_val (v := (Value.bool (decide ((i1995 : Int) < (x1897.length : Int))))) (wanted_n rfl) rfl rfl (run_pev (v := (Value.bool (decide ((i1995 : Int) < (x1897.length : Int))))) rfl) ?_
                    refine el_nil ?_
                    refine ewp_seq ?_
                    refine ewp_cond_t rfl (lt_len hx) ?_
                    refine ewp_skip ?_
                    refine ewp_seq ?_
                    refine ewp_block ?_
                    refine ewp_seq ?_
                    refine ewp_region ?_
                    obtain ⟨b2001, of2002, es2003, hA2004, hc2005, he2006⟩ := sl_el hs1908 (idx_nat hx)
                    obtain rfl := fS_mend_Arc.op he2006
                    refine el_val (v := (Value.pointer (some (eAdr A1905 (((i1995 : Int)).toNat * 3))))) (wanted_n rfl) rfl rfl (run_idx te23 ts34 rfl hs1908.len rfl (idx_nat hx) hA2004) ?_
                    refine el_val (v := (Value.agg #[(Value.int .i64 x1996.From), (Value.int .i64 x1996.To), (Value.int .i64 x1996.Len)])) (wanted_n rfl) rfl rfl (run_loadN (ad := (eAdr A1905 (((i1995 : Int)).toNat * 3))) (cs := [(Value.int .i64 x1996.From), (Value.int .i64 x1996.To), (Value.int .i64 x1996.Len)]) ta34 ts34 rfl rfl (fz_cells hw hc2005)) ?_
                    refine el_exv (wanted_n rfl) rfl rfl (run_allocE (cs := [(Value.int .i64 0), (Value.int .i64 0), (Value.int .i64 0)]) tz34 rfl hw) ?_
                    rintro w2009 _ ⟨b2007, rfl, hw⟩
                    refine el_exu (wanted_n rfl) rfl (run_blkSetE (new := List.toArray [(Value.int .i64 x1996.From), (Value.int .i64 x1996.To), (Value.int .i64 x1996.Len)]) hw rfl rfl ts34 rfl rfl rfl) ?_
                    rintro w2010 hw
                    refine el_nil ?_
                    refine ewp_region ?_
                    refine el_val (v := (Value.func (.func 61) #[] #[(Value.pointer (some ⟨b772, 0, none⟩)), (Value.pointer (some ⟨b1357, 0, none⟩)), (Value.pointer (some ⟨b1364, 0, none⟩)), (Value.pointer (some ⟨b1344, 0, none⟩)), (Value.pointer (some ⟨b1361, 0, none⟩))])) (wanted_n rfl) rfl rfl (run_pev (v := (Value.func (.func 61) #[] #[(Value.pointer (some ⟨b772, 0, none⟩)), (Value.pointer (some ⟨b1357, 0, none⟩)), (Value.pointer (some ⟨b1364, 0, none⟩)), (Value.pointer (some ⟨b1344, 0, none⟩)), (Value.pointer (some ⟨b1361, 0, none⟩))])) rfl) ?_
                    refine el_val (v := (Value.agg #[(Value.int .i64 x1996.From), (Value.int .i64 x1996.To), (Value.int .i64 x1996.Len)])) (wanted_n rfl) rfl rfl (run_loadN (ad := ⟨b2007, 0, none⟩) (cs := [(Value.int .i64 x1996.From), (Value.int .i64 x1996.To), (Value.int .i64 x1996.Len)]) ta34 ts34 rfl rfl (wd_cells 0 hw rfl rfl)) ?_
                    obtain ⟨x2011, hx2012, h⟩ := bind_some h
                    replace hw := hw.front2
                    replace hw := hw.front6
                    replace hw := hw.front3
                    replace hw := hw.front10
                    replace hw := hw.front9
                    replace hw := hw.front8
                    replace hw := hw.front10
                    replace hw := hw.front9
                    replace hw := hw.front9
                    replace hw := hw.front10
                    replace hw := hw.front11
                    refine el_call (wanted_n rfl) rfl rfl (run_call (vals := (List.toArray [(Value.agg #[(Value.int .i64 x1996.From), (Value.int .i64 x1996.To), (Value.int .i64 x1996.Len)]), (Value.pointer (some ⟨b772, 0, none⟩)), (Value.pointer (some ⟨b1357, 0, none⟩)), (Value.pointer (some ⟨b1364, 0, none⟩)), (Value.pointer (some ⟨b1344, 0, none⟩)), (Value.pointer (some ⟨b1361, 0, none⟩))])) rfl cl61 rfl) (mend_solver_with_1_v2.calls hw hk1959 hs785 hk1028 hk1964 hk1949 hk1954 hx2012) ?_
                    rintro _ w2026 ⟨f2013, cur2016, cur2018, cur2020, A2023, n2024, c2025, cur2022, hle2014, rfl, hk2015, hk2017, hk2019, hk2021, hw⟩
                    replace ho3 := (fOpt fS_mend_solver).mono hle2014 ho3
                    replace hs8 := hs8.mono hle2014
                    replace hs785 := hs785.mono hle2014
                    replace hk1028 := hk1028.mono hle2014
                    replace hs1908 := hs1908.mono hle2014
                    replace hc2005 := fun j v hv => hcell_le hle2014 (hc2005 j v hv)
                    refine el_nil ?_
                    refine ewp_region ?_
                    refine el_val (v := (Value.int .i64 (w64 ((i1995 : Int) + 1)))) (wanted_n rfl) rfl rfl (run_pev (v := (Value.int .i64 (w64 ((i1995 : Int) + 1)))) rfl) ?_
                    refine el_val (v := (Value.int .i64 (w64 ((i1995 : Int) + 1)))) (wanted_n rfl) rfl rfl (run_pev (v := (Value.int .i64 (w64 ((i1995 : Int) + 1)))) rfl) ?_
                    refine el_nil ?_
                    replace hw := hw.drop_11
                    replace hw := hw.front7
                    replace hw := hw.front5
                    replace hw := hw.front7
                    replace hw := hw.front4
                    replace hw := hw.front9
                    replace hw := hw.front8
                    replace hw := hw.front8
                    replace hw := hw.front8
                    replace hw := hw.front10
                    replace hw := hw.front10
                    obtain rfl := Option.some.inj h
                    exact ⟨_, rfl, f2013, A1945, n1946, c1947, cur2020, A2023, n2024, c2025, cur2022, A1955, n1956, c1957, cur2016, A1960, n1961, c1962, cur2018, (HP.le_trans hle1943 hle2014), hk2019, hk2021, hk2015, hk2017, ⟨rfl, rfl, rfl, rfl, rfl, rfl, rfl, rfl, (congrArg (Value.int .i64) (succ_w64 hs1908.room hx)), trivial⟩, hw⟩
                  · rintro s1941 ρ2027 w2028 hfin2029 ⟨f1942, A1945, n1946, c1947, cur1948, A1950, n1951, c1952, cur1953, A1955, n1956, c1957, cur1958, A1960, n1961, c1962, cur1963, hle1943, hk1949, hk1954, hk1959, hk1964, hl1944, hw⟩
                    first | refine ewp_live hl1944 fun ρ2030 => ?_ | rw [← hl1944.eq]
                    replace ho3 := (fOpt fS_mend_solver).mono hle1943 ho3
                    replace hs8 := hs8.mono hle1943
                    replace hs785 := hs785.mono hle1943
                    replace hk1028 := hk1028.mono hle1943
                    replace hs1908 := hs1908.mono hle1943
                    refine ewp_seq ?_
                    refine ewp_region ?_
                    refine el_val (v := (Value.bool (decide ((x1897.length : Int) < (x1897.length : Int))))) (wanted_n rfl) rfl rfl (run_pev (v := (Value.bool (decide ((x1897.length : Int) < (x1897.length : Int))))) rfl) ?_
                    refine el_nil ?_
                    refine ewp_seq ?_
                    refine ewp_cond_f rfl (nlt_self _) ?_
                    refine ewp_exit ?_
                    exact ⟨s1941, hfin2029, f1942, A1945, n1946, c1947, cur1948, A1950, n1951, c1952, cur1953, A1955, n1956, c1957, cur1958, A1960, n1961, c1962, cur1963, hle1943, hk1949, hk1954, hk1959, hk1964, ⟨rfl, rfl, rfl, rfl, rfl, rfl, trivial⟩, hw⟩
                · rintro ρ2031 w2032 ⟨s1941, rfl, f1942, A1945, n1946, c1947, cur1948, A1950, n1951, c1952, cur1953, A1955, n1956, c1957, cur1958, A1960, n1961, c1962, cur1963, hle1943, hk1949, hk1954, hk1959, hk1964, hl1944, hw⟩
                  replace h := on_go h
                  first | refine ewp_live hl1944 fun ρ2033 => ?_ | rw [← hl1944.eq]
                  replace ho3 := (fOpt fS_mend_solver).mono hle1943 ho3
                  replace hs8 := hs8.mono hle1943
                  replace hs785 := hs785.mono hle1943
                  replace hk1028 := hk1028.mono hle1943
                  replace hs1908 := hs1908.mono hle1943
                  replace hw := hw.front7
                  replace hw := hw.front7
                  replace hw := hw.front3
                  replace hw := hw.front3
                  replace hw := hw.front6
                  replace hw := hw.front6
                  replace hw := hw.front6
                  obtain rfl := Option.some.inj h
                  exact ⟨_, rfl, f1942, A1955, n1956, c1957, cur1958, A1960, n1961, c1962, cur1963, A1945, n1946, c1947, cur1948, A1950, n1951, c1952, cur1953, (HP.le_trans (HP.le_trans hle1650 hle1856) hle1943), hk1959, hk1964, hk1949, hk1954, ⟨rfl, rfl, rfl, rfl, rfl, rfl, trivial⟩, hw⟩
                · exact fun _ _ h => h.elim
                · exact fun _ _ _ h => h.elim
            · replace h := ifb_f hb1863 h
              refine ewp_exit ?_
              obtain rfl := Option.some.inj h
              exact ⟨_, rfl, fun hf => ⟨_, hf, f1855, A1652, n1653, c1654, cur1655, A1657, n1658, c1659, cur1660, A1662, n1663, c1664, cur1665, A1667, n1668, c1669, cur1670, (HP.le_trans hle1650 hle1856), hk1656, hk1661, hk1666, hk1671, ⟨rfl, rfl, trivial⟩, hw⟩⟩
        · rintro ρ2034 w2035 ⟨s1817, rfl, f1818, A1821, n1822, c1823, cur1824, A1826, n1827, c1828, cur1829, A1831, n1832, c1833, cur1834, A1836, n1837, c1838, cur1839, hle1819, hk1825, hk1830, hk1835, hk1840, hl1820, hw⟩
          replace h := on_go h
          first | refine ewp_live hl1820 fun ρ2036 => ?_ | rw [← hl1820.eq]
          replace ho3 := (fOpt fS_mend_solver).mono hle1819 ho3
          replace hs8 := hs8.mono hle1819
          replace hs785 := hs785.mono hle1819
          replace hk1028 := hk1028.mono hle1819
          refine ewp_seq ?_
          refine ewp_draw (SW G f1818 (Arr A1821 c1823 cur1824 :: Arr A1024 c1026 cur1027 :: Arr A1826 c1828 cur1829 :: Arr A1831 c1833 cur1834 :: Arr A1836 c1838 cur1839 :: Blk b774 (.cells (List.toArray [(Value.slice A1821 n1822 c1823), (Value.slice A782 n783 c784), (Value.slice A1024 n1025 c1026)]) 73 (0, 0)) :: Blk b1364 (.cells (List.toArray [(Value.bool s1817.2.2.2.2)]) 4 (0, 0)) :: Blk b1361 (.cells (List.toArray [(Value.slice A1836 n1837 c1838)]) 22 (0, 0)) :: Blk b1357 (.cells (List.toArray [(Value.slice A1826 n1827 c1828)]) 22 (0, 0)) :: Blk b1344 (.cells (List.toArray [(Value.slice A1831 n1832 c1833)]) 88 (0, 0)) :: Blk b772 (.cells (List.toArray [(Value.pointer (some ⟨b774, 0, none⟩))]) 69 (0, 0)) :: L)) [] 3 mixed ?_
          replace hw := hw.drew
          have hS := SW.of hw
          refine et_first (i := 0) (v := (Value.pointer (some ⟨b774, 0, none⟩))) rfl (by kernel_rfl) (fun _ _ _ h => h) rfl rfl (.inl ⟨(wanted_n rfl), fun w9 ⟨f9, hl9, h9⟩ => run_load1 (ad := ⟨b772, 0, none⟩) ta69 rfl (wd_cell 10 h9 rfl rfl)⟩) hS ?_
          refine et_first (i := 1) (v := (Value.bool s1817.2.2.2.2)) rfl (by kernel_rfl) (fun _ _ _ h => h) rfl rfl (.inl ⟨(wanted_n rfl), fun w9 ⟨f9, hl9, h9⟩ => run_load1 (ad := ⟨b1364, 0, none⟩) ta4 rfl (wd_cell 6 h9 rfl rfl)⟩) hS ?_
          refine et_pure (i := 2) (v := (Value.pointer (some ⟨b774, 0, none⟩))) rfl (by kernel_rfl) (fun _ _ _ h => h) rfl rfl (.inl ⟨(wanted_n rfl), fun _ => run_pev (v := (Value.pointer (some ⟨b774, 0, none⟩))) rfl⟩) ?_
          refine et_tail rfl ?_
          refine ey_one (i := 3) (by kernel_rfl) ?_
          refine eo_val (v := (Value.bool s1817.2.2.2.2)) rfl (wanted_n rfl) rfl rfl (run_pev (v := (Value.bool s1817.2.2.2.2)) rfl) ?_
          refine ey_done rfl ?_
          refine ewp_ret ?_
          obtain ⟨f2037, hle2038, hs2039, hw⟩ := arr_freeze hk1825 hw
          replace ho3 := (fOpt fS_mend_solver).mono hle2038 ho3
          replace hs8 := hs8.mono hle2038
          replace hs785 := hs785.mono hle2038
          replace hk1028 := hk1028.mono hle2038
          replace hk1830 := hk1830.mono hle2038
          replace hk1835 := hk1835.mono hle2038
          replace hk1840 := hk1840.mono hle2038
          obtain ⟨f2040, hle2041, hs2042, hw⟩ := arr_freeze hk1028 hw
          replace ho3 := (fOpt fS_mend_solver).mono hle2041 ho3
          replace hs8 := hs8.mono hle2041
          replace hs785 := hs785.mono hle2041
          replace hk1830 := hk1830.mono hle2041
          replace hk1835 := hk1835.mono hle2041
          replace hk1840 := hk1840.mono hle2041
          replace hs2039 := hs2039.mono hle2041
          replace hw := hw.front3
          obtain ⟨f2043, hle2044, hb2045, hw⟩ := wd_freezeB hw
          replace ho3 := (fOpt fS_mend_solver).mono hle2044 ho3
          replace hs8 := hs8.mono hle2044
          replace hs785 := hs785.mono hle2044
          replace hk1830 := hk1830.mono hle2044
          replace hk1835 := hk1835.mono hle2044
          replace hk1840 := hk1840.mono hle2044
          replace hs2039 := hs2039.mono hle2044
          replace hs2042 := hs2042.mono hle2044
          replace hw := hw.drop_0
          replace hw := hw.drop_0
          replace hw := hw.drop_0
          replace hw := hw.drop_0
          replace hw := hw.drop_0
          replace hw := hw.drop_0
          replace hw := hw.drop_0
          replace hw := hw.drop_0
          obtain rfl := Option.some.inj h
          exact ⟨_, res2 rfl, f2043, (Value.pointer (some ⟨b774, 0, none⟩)), (HP.le_trans (HP.le_trans (HP.le_trans (HP.le_trans (HP.le_trans (HP.le_trans (HP.le_trans hle770 hle1022) hle1403) hle1501) hle1819) hle2038) hle2041) hle2044), rfl, ⟨_, _, _, _, rfl, hb2045, (fS_mend_solver.mk (x := (S_mend_solver.mk s1817.1 s768.2.1 s1020)) hs2039 hs785 hs2042)⟩, hw⟩
        · rintro ρ2046 w2047 ⟨x2048, rfl, hq2049⟩
          replace h := on_out h
          obtain rfl := Option.some.inj h
          exact hq2049 rfl
        · exact fun _ _ _ h => h.elim
      · exact fun _ _ h => h.elim
      · exact fun _ _ _ h => h.elim
    · exact fun _ _ h => h.elim
    · exact fun _ _ _ h => h.elim
def mend_picked_b2 (p1 : S_mend_Graph) (i309 : Nat) (x310 : Int) (s242 : Option S_mend_solver × Bool) : Option (Ctl (Option S_mend_solver × Bool) (Ctl (Option S_mend_solver × Bool) (Empty))) :=
  (((ifb s242.2 (some (decide (x310 > 0))) (some false)).bind fun (s384 : Bool) => (ifb s384 ((idx p1.Choices (i309 : Int)).bind fun (x394 : S_mend_Choice) => ((idx x394.Ways (w64 (x310 - 1))).bind fun (x406 : List S_mend_Arc) => ((mend_solver_with_v2 s242.1 x406).bind fun (x418 : Option S_mend_solver × Bool) => (some (x418.1, x418.2))))) (some (s242.1, s242.2)))).bind fun (s366 : Option S_mend_solver × Bool) => (some (.go (s366.1, s366.2))))
def mend_picked (p1 : S_mend_Graph) (p22 : List Int) : Option (Option S_mend_solver × Bool) :=
  ((mend_start p1).bind fun (x172 : Option S_mend_solver × Bool) => ((forC (mend_picked_b2 p1) p22 (x172.1, x172.2)).bind fun c307 => Ctl.on c307 (fun s242 => (some (s242.1, s242.2))) (fun x_ => x_.elim)))
def mend_picked.R (G : World) (f : HP) (L : List HProp) (A2 : Option Addr) (n3 : Nat) (c4 : Nat) (A6 : Option Addr) (n7 : Nat) (c8 : Nat) (A10 : Option Addr) (n11 : Nat) (c12 : Nat) (A14 : Option Addr) (n15 : Nat) (c16 : Nat) (A18 : Option Addr) (n19 : Nat) (c20 : Nat) (A23 : Option Addr) (n24 : Nat) (c25 : Nat) (cur26 : Array Value) (p1 : S_mend_Graph) (p22 : List Int) (r : Option S_mend_solver × Bool) : Value → World → Prop := fun v' w' =>
  ∃ (f' : HP) (v167 : Value), HP.le f f' ∧ v' = (Value.tuple #[v167, (Value.bool r.2)]) ∧ (fOpt fS_mend_solver).p f' [v167] r.1 ∧ Wd G w' f' (Arr A23 c25 cur26 :: L)
theorem mend_picked.calls {G w : World} {f : HP} {L : List HProp} {A2 : Option Addr} {n3 : Nat} {c4 : Nat} {A6 : Option Addr} {n7 : Nat} {c8 : Nat} {A10 : Option Addr} {n11 : Nat} {c12 : Nat} {A14 : Option Addr} {n15 : Nat} {c16 : Nat} {A18 : Option Addr} {n19 : Nat} {c20 : Nat} {A23 : Option Addr} {n24 : Nat} {c25 : Nat} {cur26 : Array Value} {p1 : S_mend_Graph} {p22 : List Int} (hw : Wd G w f (Arr A23 c25 cur26 :: L)) (hs5 : SlF f (fInt .i64) A2 n3 c4 p1.Ready) (hs9 : SlF f (fInt .i64) A6 n7 c8 p1.Last) (hs13 : SlF f (fInt .i64) A10 n11 c12 p1.Due) (hs17 : SlF f fS_mend_Arc A14 n15 c16 p1.Arcs) (hs21 : SlF f fS_mend_Choice A18 n19 c20 p1.Choices) (hk27 : ArrOk f (fInt .i64) A23 n24 c25 cur26 p22) {r : Option S_mend_solver × Bool} (h : mend_picked p1 p22 = some r) :
    Calls Try.prog 34 #[(Value.agg #[(Value.slice A2 n3 c4), (Value.slice A6 n7 c8), (Value.slice A10 n11 c12), (Value.slice A14 n15 c16), (Value.slice A18 n19 c20)]), (Value.slice A23 n24 c25)] w (Returns (mend_picked.R G f L A2 n3 c4 A6 n7 c8 A10 n11 c12 A14 n15 c16 A18 n19 c20 A23 n24 c25 cur26 p1 p22 r)) := by
  unfold mend_picked at h
  refine ecalls 45 Try.func34 rfl rfl ?_
  refine ewp_seq ?_
  refine ewp_region ?_
  refine el_exv (wanted_n rfl) rfl rfl (run_boxE (cs := [(Value.slice A2 n3 c4), (Value.slice A6 n7 c8), (Value.slice A10 n11 c12), (Value.slice A14 n15 c16), (Value.slice A18 n19 c20)]) rfl rfl hw) ?_
  rintro w171 _ ⟨b169, rfl, hw⟩
  refine el_val (v := (Value.pointer none)) (wanted_n rfl) rfl rfl (run_pev (v := (Value.pointer none)) rfl) ?_
  refine el_val (v := (Value.bool false)) (wanted_n rfl) rfl rfl (run_pev (v := (Value.bool false)) rfl) ?_
  refine el_nil ?_
  refine ewp_seq ?_
  refine ewp_region ?_
  refine el_val (v := (Value.agg #[(Value.slice A2 n3 c4), (Value.slice A6 n7 c8), (Value.slice A10 n11 c12), (Value.slice A14 n15 c16), (Value.slice A18 n19 c20)])) (wanted_n rfl) rfl rfl (run_loadN (ad := ⟨b169, 0, none⟩) (cs := [(Value.slice A2 n3 c4), (Value.slice A6 n7 c8), (Value.slice A10 n11 c12), (Value.slice A14 n15 c16), (Value.slice A18 n19 c20)]) ta26 ts26 rfl rfl (wd_cells 0 hw rfl rfl)) ?_
  obtain ⟨x172, hx173, h⟩ := bind_some h
  refine el_call (wanted_n rfl) rfl rfl (run_call (vals := (List.toArray [(Value.agg #[(Value.slice A2 n3 c4), (Value.slice A6 n7 c8), (Value.slice A10 n11 c12), (Value.slice A14 n15 c16), (Value.slice A18 n19 c20)])])) rfl cl42 rfl) (mend_start.calls hw hs5 hs9 hs13 hs17 hs21 hx173) ?_
  rintro _ w178 ⟨f174, v176, hle175, rfl, ho177, hw⟩
  replace hs5 := hs5.mono hle175
  replace hs9 := hs9.mono hle175
  replace hs13 := hs13.mono hle175
  replace hs17 := hs17.mono hle175
  replace hs21 := hs21.mono hle175
  replace hk27 := hk27.mono hle175
  refine el_val (v := (Value.tuple #[v176, (Value.bool x172.2)])) (wanted_n rfl) rfl rfl (run_pev (v := (Value.tuple #[v176, (Value.bool x172.2)])) rfl) ?_
  refine el_val (v := v176) (wanted_n rfl) rfl rfl (run_pev (v := v176) rfl) ?_
  refine el_val (v := (Value.bool x172.2)) (wanted_n rfl) rfl rfl (run_pev (v := (Value.bool x172.2)) rfl) ?_
  refine el_val (v := v176) (wanted_n rfl) rfl rfl (run_pev (v := v176) rfl) ?_
  refine el_val (v := (Value.bool x172.2)) (wanted_n rfl) rfl rfl (run_pev (v := (Value.bool x172.2)) rfl) ?_
  refine el_nil ?_
  refine ewp_seq ?_
  refine ewp_seq ?_
  refine ewp_region ?_
  refine el_val (v := (Value.slice A23 n24 c25)) (wanted_n rfl) rfl rfl (run_pev (v := (Value.slice A23 n24 c25)) rfl) ?_
  refine el_val (v := (Value.int .i64 (p22.length : Int))) (wanted_n rfl) rfl rfl (run_lenS te22 rfl hk27.len) ?_
  refine el_val (v := (Value.int .i64 0)) (wanted_n rfl) rfl rfl (run_pev (v := (Value.int .i64 0)) rfl) ?_
  refine el_nil ?_
  obtain ⟨c307, hc308, h⟩ := bind_some h
  refine ewp_M (fun ρ' w' => ∃ s242, c307 = .go s242 ∧ ∃ (f243 : HP) (v246 : Value), HP.le f174 f243 ∧ (fOpt fS_mend_solver).p f243 [v246] s242.1 ∧ Live ρ' [(6, v246), (7, (Value.bool s242.2))] ∧ Wd G w' f243 (Arr A23 c25 cur26 :: Blk b169 (.cells (List.toArray [(Value.slice A2 n3 c4), (Value.slice A6 n7 c8), (Value.slice A10 n11 c12), (Value.slice A14 n15 c16), (Value.slice A18 n19 c20)]) 26 (0, 0)) :: L)) noE noX ?_ ?_ ?_ ?_
  · refine ewp_block ?_
    replace hw := hw.front1
    refine ewp_forC (fun (i309 : Nat) (s242 : Option S_mend_solver × Bool) ρ' w' => ∃ (f243 : HP) (v246 : Value), HP.le f174 f243 ∧ (fOpt fS_mend_solver).p f243 [v246] s242.1 ∧ Live ρ' [(2, (Value.pointer (some ⟨b169, 0, none⟩))), (6, v246), (7, (Value.bool s242.2)), (15, (Value.slice A23 n24 c25)), (16, (Value.int .i64 (p22.length : Int))), (17, (Value.int .i64 (i309 : Int)))] ∧ Wd G w' f243 (Arr A23 c25 cur26 :: Blk b169 (.cells (List.toArray [(Value.slice A2 n3 c4), (Value.slice A6 n7 c8), (Value.slice A10 n11 c12), (Value.slice A14 n15 c16), (Value.slice A18 n19 c20)]) 26 (0, 0)) :: L)) hc308 ⟨f174, v176, (HP.le_refl _), ho177, ⟨rfl, rfl, rfl, rfl, rfl, rfl, trivial⟩, hw⟩ ?_ ?_
    · rintro i309 x310 s242 ct313 ρ311 w312 hx h ⟨f243, v246, hle244, ho247, hl245, hw⟩
      unfold mend_picked_b2 at h
      first | refine ewp_live hl245 fun ρ314 => ?_ | rw [← hl245.eq]
      replace hs5 := hs5.mono hle244
      replace hs9 := hs9.mono hle244
      replace hs13 := hs13.mono hle244
      replace hs17 := hs17.mono hle244
      replace hs21 := hs21.mono hle244
      replace hk27 := hk27.mono hle244
      replace ho177 := (fOpt fS_mend_solver).mono hle244 ho177
      refine ewp_seq ?_
      refine ewp_region ?_
      refine el_val (v := (Value.bool (decide ((i309 : Int) < (p22.length : Int))))) (wanted_n rfl) rfl rfl (run_pev (v := (Value.bool (decide ((i309 : Int) < (p22.length : Int))))) rfl) ?_
      refine el_nil ?_
      refine ewp_seq ?_
      refine ewp_cond_t rfl (lt_len hx) ?_
      refine ewp_skip ?_
      refine ewp_seq ?_
      obtain ⟨s366, hc372, h⟩ := bind_some h
      refine ewp_N (fun ρ' w' => ∃ (f367 : HP) (v370 : Value), HP.le f243 f367 ∧ (fOpt fS_mend_solver).p f367 [v370] s366.1 ∧ Live ρ' [(2, (Value.pointer (some ⟨b169, 0, none⟩))), (6, v370), (7, (Value.bool s366.2)), (15, (Value.slice A23 n24 c25)), (16, (Value.int .i64 (p22.length : Int))), (17, (Value.int .i64 (i309 : Int)))] ∧ Wd G w' f367 (Arr A23 c25 cur26 :: Blk b169 (.cells (List.toArray [(Value.slice A2 n3 c4), (Value.slice A6 n7 c8), (Value.slice A10 n11 c12), (Value.slice A14 n15 c16), (Value.slice A18 n19 c20)]) 26 (0, 0)) :: L)) ?_ ?_
      · replace h := hc372
        refine ewp_block ?_
        refine ewp_seq ?_
        refine ewp_region ?_
        refine el_val (v := (Value.int .i64 (i309 : Int))) (wanted_n rfl) rfl rfl (run_pev (v := (Value.int .i64 (i309 : Int))) rfl) ?_
        obtain ⟨b373, of374, es375, hA376, hc377, he378⟩ := arr_el hk27 (idx_nat hx)
        obtain rfl : es375 = _ := he378
        refine el_val (v := (Value.pointer (some (eAdr A23 (((i309 : Int)).toNat * 1))))) (wanted_n rfl) rfl rfl (run_idx te22 ts3 rfl hk27.len rfl (idx_nat hx) hA376) ?_
        refine el_val (v := (Value.int .i64 x310)) (wanted_n rfl) rfl rfl (run_load1 (ad := (eAdr A23 (((i309 : Int)).toNat * 1))) ta3 rfl (wd_arr 0 hw rfl hA376 (hc377 0 _ rfl))) ?_
        refine el_val (v := (Value.int .i64 (i309 : Int))) (wanted_n rfl) rfl rfl (run_pev (v := (Value.int .i64 (i309 : Int))) rfl) ?_
        refine el_val (v := (Value.int .i64 x310)) (wanted_n rfl) rfl rfl (run_pev (v := (Value.int .i64 x310)) rfl) ?_
        refine el_nil ?_
        refine ewp_seq ?_
        obtain ⟨s384, hc388, h⟩ := bind_some h
        refine ewp_N (fun ρ' w' => ∃ (f385 : HP), HP.le f243 f385 ∧ Live ρ' [(2, (Value.pointer (some ⟨b169, 0, none⟩))), (6, v246), (7, (Value.bool s242.2)), (8, (Value.int .i64 (i309 : Int))), (9, (Value.int .i64 x310)), (15, (Value.slice A23 n24 c25)), (16, (Value.int .i64 (p22.length : Int))), (17, (Value.int .i64 (i309 : Int))), (26, (Value.bool s384))] ∧ Wd G w' f385 (Arr A23 c25 cur26 :: Blk b169 (.cells (List.toArray [(Value.slice A2 n3 c4), (Value.slice A6 n7 c8), (Value.slice A10 n11 c12), (Value.slice A14 n15 c16), (Value.slice A18 n19 c20)]) 26 (0, 0)) :: L)) ?_ ?_
        · replace h := hc388
          refine ewp_region ?_
          refine el_val (v := (Value.bool s242.2)) (wanted_n rfl) rfl rfl (run_pev (v := (Value.bool s242.2)) rfl) ?_
          refine el_val (v := (Value.bool s242.2)) (wanted_n rfl) rfl rfl (run_pev (v := (Value.bool s242.2)) rfl) ?_
          rcases Bool.eq_false_or_eq_true s242.2 with hb389 | hb389
          · replace h := ifb_t hb389 h
            refine el_val (v := (Value.int .i64 x310)) (wanted_y rfl rfl rfl hb389) rfl rfl (run_pev (v := (Value.int .i64 x310)) rfl) ?_
            refine el_val (v := (Value.bool (decide (x310 > 0)))) (wanted_y rfl rfl rfl hb389) rfl rfl (run_pev (v := (Value.bool (decide (x310 > 0)))) rfl) ?_
            refine el_val (v := (Value.bool (decide (x310 > 0)))) (wanted_n rfl) rfl rfl (run_pick_t rfl hb389 rfl) ?_
            refine el_nil ?_
            obtain rfl := Option.some.inj h
            exact ⟨f243, (HP.le_refl _), ⟨rfl, rfl, rfl, rfl, rfl, rfl, rfl, rfl, rfl, trivial⟩, hw⟩
          · replace h := ifb_f hb389 h
            refine el_pass (wanted_f rfl rfl rfl hb389) rfl rfl ?_
            refine el_pass (wanted_f rfl rfl rfl hb389) rfl rfl ?_
            refine el_val (v := (Value.bool false)) (wanted_n rfl) rfl rfl (run_pick_f rfl hb389 rfl) ?_
            refine el_nil ?_
            obtain rfl := Option.some.inj h
            exact ⟨f243, (HP.le_refl _), ⟨rfl, rfl, rfl, rfl, rfl, rfl, rfl, rfl, rfl, trivial⟩, hw⟩
        · rintro ρ390 w391 ⟨f385, hle386, hl387, hw⟩
          first | refine ewp_live hl387 fun ρ392 => ?_ | rw [← hl387.eq]
          replace hs5 := hs5.mono hle386
          replace hs9 := hs9.mono hle386
          replace hs13 := hs13.mono hle386
          replace hs17 := hs17.mono hle386
          replace hs21 := hs21.mono hle386
          replace hk27 := hk27.mono hle386
          replace ho177 := (fOpt fS_mend_solver).mono hle386 ho177
          replace ho247 := (fOpt fS_mend_solver).mono hle386 ho247
          refine ewp_cond s384 rfl (fun hb393 => ?_) (fun hb393 => ?_)
          · replace h := ifb_t hb393 h
            refine ewp_region ?_
            refine el_val (v := v246) (wanted_n rfl) rfl rfl (run_pev (v := v246) rfl) ?_
            refine el_val (v := (Value.pointer (some ⟨b169, 4, none⟩))) (wanted_n rfl) rfl rfl (run_fieldAddr tf26_4 (o := 0) rfl) ?_
            refine el_val (v := (Value.slice A18 n19 c20)) (wanted_n rfl) rfl rfl (run_load1 (ad := ⟨b169, 4, none⟩) ta24 rfl (wd_cell 1 hw rfl rfl)) ?_
            refine el_val (v := (Value.int .i64 (i309 : Int))) (wanted_n rfl) rfl rfl (run_pev (v := (Value.int .i64 (i309 : Int))) rfl) ?_
            obtain ⟨x394, hx395, h⟩ := bind_some h
            obtain ⟨b396, of397, es398, hA399, hc400, he401⟩ := sl_el hs21 hx395
            obtain ⟨A402, n403, c404, rfl, hs405⟩ := fS_mend_Choice.op he401
            refine el_val (v := (Value.pointer (some (eAdr A18 (((i309 : Int)).toNat * 1))))) (wanted_n rfl) rfl rfl (run_idx te24 ts37 rfl hs21.len rfl hx395 hA399) ?_
            refine el_val (v := (Value.pointer (some (eAdr A18 (((i309 : Int)).toNat * 1))))) (wanted_n rfl) rfl rfl (run_fieldEl tf37_0 rfl rfl rfl) ?_
            refine el_val (v := (Value.slice A402 n403 c404)) (wanted_n rfl) rfl rfl (run_load1 (ad := (eAdr A18 (((i309 : Int)).toNat * 1))) ta35 rfl (hw.fz (hc400 0 _ rfl))) ?_
            refine el_val (v := (Value.int .i64 x310)) (wanted_n rfl) rfl rfl (run_pev (v := (Value.int .i64 x310)) rfl) ?_
            refine el_val (v := (Value.int .i64 (w64 (x310 - 1)))) (wanted_n rfl) rfl rfl (run_pev (v := (Value.int .i64 (w64 (x310 - 1)))) rfl) ?_
            obtain ⟨x406, hx407, h⟩ := bind_some h
            obtain ⟨b408, of409, es410, hA411, hc412, he413⟩ := sl_el hs405 hx407
            obtain ⟨A414, n415, c416, rfl, hs417⟩ := he413
            refine el_val (v := (Value.pointer (some (eAdr A402 ((w64 (x310 - 1)).toNat * 1))))) (wanted_n rfl) rfl rfl (run_idx te35 ts23 rfl hs405.len rfl hx407 hA411) ?_
            refine el_val (v := (Value.slice A414 n415 c416)) (wanted_n rfl) rfl rfl (run_load1 (ad := (eAdr A402 ((w64 (x310 - 1)).toNat * 1))) ta23 rfl (hw.fz (hc412 0 _ rfl))) ?_
            obtain ⟨x418, hx419, h⟩ := bind_some h
            refine el_call (wanted_n rfl) rfl rfl (run_call (vals := (List.toArray [v246, (Value.slice A414 n415 c416)])) rfl cl41 rfl) (mend_solver_with_v2.calls hw ho247 hs417 hx419) ?_
            rintro _ w424 ⟨f420, v422, hle421, rfl, ho423, hw⟩
            replace hs5 := hs5.mono hle421
            replace hs9 := hs9.mono hle421
            replace hs13 := hs13.mono hle421
            replace hs17 := hs17.mono hle421
            replace hs21 := hs21.mono hle421
            replace hk27 := hk27.mono hle421
            replace ho177 := (fOpt fS_mend_solver).mono hle421 ho177
            replace ho247 := (fOpt fS_mend_solver).mono hle421 ho247
            replace hs405 := hs405.mono hle421
            replace hc400 := fun j v hv => hcell_le hle421 (hc400 j v hv)
            replace hs417 := hs417.mono hle421
            replace hc412 := fun j v hv => hcell_le hle421 (hc412 j v hv)
            refine el_val (v := (Value.tuple #[v422, (Value.bool x418.2)])) (wanted_n rfl) rfl rfl (run_pev (v := (Value.tuple #[v422, (Value.bool x418.2)])) rfl) ?_
            refine el_val (v := v422) (wanted_n rfl) rfl rfl (run_pev (v := v422) rfl) ?_
            refine el_val (v := (Value.bool x418.2)) (wanted_n rfl) rfl rfl (run_pev (v := (Value.bool x418.2)) rfl) ?_
            refine el_val (v := v422) (wanted_n rfl) rfl rfl (run_pev (v := v422) rfl) ?_
            refine el_val (v := (Value.bool x418.2)) (wanted_n rfl) rfl rfl (run_pev (v := (Value.bool x418.2)) rfl) ?_
            refine el_nil ?_
            obtain rfl := Option.some.inj h
            exact ⟨f420, v422, (HP.le_trans hle386 hle421), ho423, ⟨rfl, rfl, rfl, rfl, rfl, rfl, trivial⟩, hw⟩
          · replace h := ifb_f hb393 h
            refine ewp_skip ?_
            obtain rfl := Option.some.inj h
            exact ⟨f385, v246, hle386, ho247, ⟨rfl, rfl, rfl, rfl, rfl, rfl, trivial⟩, hw⟩
      · rintro ρ425 w426 ⟨f367, v370, hle368, ho371, hl369, hw⟩
        first | refine ewp_live hl369 fun ρ427 => ?_ | rw [← hl369.eq]
        replace hs5 := hs5.mono hle368
        replace hs9 := hs9.mono hle368
        replace hs13 := hs13.mono hle368
        replace hs17 := hs17.mono hle368
        replace hs21 := hs21.mono hle368
        replace hk27 := hk27.mono hle368
        replace ho177 := (fOpt fS_mend_solver).mono hle368 ho177
        replace ho247 := (fOpt fS_mend_solver).mono hle368 ho247
        refine ewp_region ?_
        refine el_val (v := (Value.int .i64 (w64 ((i309 : Int) + 1)))) (wanted_n rfl) rfl rfl (run_pev (v := (Value.int .i64 (w64 ((i309 : Int) + 1)))) rfl) ?_
        refine el_val (v := (Value.int .i64 (w64 ((i309 : Int) + 1)))) (wanted_n rfl) rfl rfl (run_pev (v := (Value.int .i64 (w64 ((i309 : Int) + 1)))) rfl) ?_
        refine el_nil ?_
        obtain rfl := Option.some.inj h
        exact ⟨_, rfl, f367, v370, (HP.le_trans hle244 hle368), ho371, ⟨rfl, rfl, rfl, rfl, rfl, (congrArg (Value.int .i64) (succ_w64 hk27.room hx)), trivial⟩, hw⟩
    · rintro s242 ρ428 w429 hfin430 ⟨f243, v246, hle244, ho247, hl245, hw⟩
      first | refine ewp_live hl245 fun ρ431 => ?_ | rw [← hl245.eq]
      replace hs5 := hs5.mono hle244
      replace hs9 := hs9.mono hle244
      replace hs13 := hs13.mono hle244
      replace hs17 := hs17.mono hle244
      replace hs21 := hs21.mono hle244
      replace hk27 := hk27.mono hle244
      replace ho177 := (fOpt fS_mend_solver).mono hle244 ho177
      refine ewp_seq ?_
      refine ewp_region ?_
      refine el_val (v := (Value.bool (decide ((p22.length : Int) < (p22.length : Int))))) (wanted_n rfl) rfl rfl (run_pev (v := (Value.bool (decide ((p22.length : Int) < (p22.length : Int))))) rfl) ?_
      refine el_nil ?_
      refine ewp_seq ?_
      refine ewp_cond_f rfl (nlt_self _) ?_
      refine ewp_exit ?_
      exact ⟨s242, hfin430, f243, v246, hle244, ho247, ⟨rfl, rfl, trivial⟩, hw⟩
  · rintro ρ432 w433 ⟨s242, rfl, f243, v246, hle244, ho247, hl245, hw⟩
    replace h := on_go h
    first | refine ewp_live hl245 fun ρ434 => ?_ | rw [← hl245.eq]
    replace hs5 := hs5.mono hle244
    replace hs9 := hs9.mono hle244
    replace hs13 := hs13.mono hle244
    replace hs17 := hs17.mono hle244
    replace hs21 := hs21.mono hle244
    replace hk27 := hk27.mono hle244
    replace ho177 := (fOpt fS_mend_solver).mono hle244 ho177
    refine ewp_seq ?_
    refine ewp_region ?_
    refine el_val (v := v246) (wanted_n rfl) rfl rfl (run_pev (v := v246) rfl) ?_
    refine el_val (v := (Value.bool s242.2)) (wanted_n rfl) rfl rfl (run_pev (v := (Value.bool s242.2)) rfl) ?_
    refine el_val (v := v246) (wanted_n rfl) rfl rfl (run_pev (v := v246) rfl) ?_
    refine el_val (v := (Value.bool s242.2)) (wanted_n rfl) rfl rfl (run_pev (v := (Value.bool s242.2)) rfl) ?_
    refine el_nil ?_
    refine ewp_ret ?_
    replace hw := hw.drop_1
    obtain rfl := Option.some.inj h
    exact ⟨_, res2 rfl, f243, v246, (HP.le_trans hle175 hle244), rfl, ho247, hw⟩
  · exact fun _ _ h => h.elim
  · exact fun _ _ _ h => h.elim
def mend_Times (p1 : S_mend_Graph) (p22 : List Int) : Option (List Int × Int) :=
  ((mend_checkPick p1 p22).bind fun (x74 : Int) => (ifb (x74 != 0) (some (([] : List Int), x74)) ((mend_picked p1 p22).bind fun (x80 : Option S_mend_solver × Bool) => (ifb (!x80.2) (some (([] : List Int), 5)) ((x80.1).bind fun (x88 : S_mend_solver) => (some (x88.times, 0)))))))
def mend_Times.R (G : World) (f : HP) (L : List HProp) (A2 : Option Addr) (n3 : Nat) (c4 : Nat) (A6 : Option Addr) (n7 : Nat) (c8 : Nat) (A10 : Option Addr) (n11 : Nat) (c12 : Nat) (A14 : Option Addr) (n15 : Nat) (c16 : Nat) (A18 : Option Addr) (n19 : Nat) (c20 : Nat) (A23 : Option Addr) (n24 : Nat) (c25 : Nat) (cur26 : Array Value) (p1 : S_mend_Graph) (p22 : List Int) (r : List Int × Int) : Value → World → Prop := fun v' w' =>
  ∃ (f' : HP) (A67 : Option Addr) (n68 : Nat) (c69 : Nat), HP.le f f' ∧ v' = (Value.tuple #[(Value.slice A67 n68 c69), (Value.int .i64 r.2)]) ∧ SlF f' (fInt .i64) A67 n68 c69 r.1 ∧ Wd G w' f' (Arr A23 c25 cur26 :: L)
theorem mend_Times.calls {G w : World} {f : HP} {L : List HProp} {A2 : Option Addr} {n3 : Nat} {c4 : Nat} {A6 : Option Addr} {n7 : Nat} {c8 : Nat} {A10 : Option Addr} {n11 : Nat} {c12 : Nat} {A14 : Option Addr} {n15 : Nat} {c16 : Nat} {A18 : Option Addr} {n19 : Nat} {c20 : Nat} {A23 : Option Addr} {n24 : Nat} {c25 : Nat} {cur26 : Array Value} {p1 : S_mend_Graph} {p22 : List Int} (hw : Wd G w f (Arr A23 c25 cur26 :: L)) (hs5 : SlF f (fInt .i64) A2 n3 c4 p1.Ready) (hs9 : SlF f (fInt .i64) A6 n7 c8 p1.Last) (hs13 : SlF f (fInt .i64) A10 n11 c12 p1.Due) (hs17 : SlF f fS_mend_Arc A14 n15 c16 p1.Arcs) (hs21 : SlF f fS_mend_Choice A18 n19 c20 p1.Choices) (hk27 : ArrOk f (fInt .i64) A23 n24 c25 cur26 p22) {r : List Int × Int} (h : mend_Times p1 p22 = some r) :
    Calls Try.prog 10 #[(Value.agg #[(Value.slice A2 n3 c4), (Value.slice A6 n7 c8), (Value.slice A10 n11 c12), (Value.slice A14 n15 c16), (Value.slice A18 n19 c20)]), (Value.slice A23 n24 c25)] w (Returns (mend_Times.R G f L A2 n3 c4 A6 n7 c8 A10 n11 c12 A14 n15 c16 A18 n19 c20 A23 n24 c25 cur26 p1 p22 r)) := by
  unfold mend_Times at h
  refine ecalls 27 Try.func10 rfl rfl ?_
  refine ewp_seq ?_
  refine ewp_region ?_
  refine el_exv (wanted_n rfl) rfl rfl (run_boxE (cs := [(Value.slice A2 n3 c4), (Value.slice A6 n7 c8), (Value.slice A10 n11 c12), (Value.slice A14 n15 c16), (Value.slice A18 n19 c20)]) rfl rfl hw) ?_
  rintro w73 _ ⟨b71, rfl, hw⟩
  refine el_val (v := (Value.slice none 0 0)) (wanted_n rfl) rfl rfl (run_pev (v := (Value.slice none 0 0)) rfl) ?_
  refine el_val (v := (Value.int .i64 0)) (wanted_n rfl) rfl rfl (run_pev (v := (Value.int .i64 0)) rfl) ?_
  refine el_nil ?_
  refine ewp_seq ?_
  refine ewp_seq ?_
  refine ewp_region ?_
  refine el_val (v := (Value.agg #[(Value.slice A2 n3 c4), (Value.slice A6 n7 c8), (Value.slice A10 n11 c12), (Value.slice A14 n15 c16), (Value.slice A18 n19 c20)])) (wanted_n rfl) rfl rfl (run_loadN (ad := ⟨b71, 0, none⟩) (cs := [(Value.slice A2 n3 c4), (Value.slice A6 n7 c8), (Value.slice A10 n11 c12), (Value.slice A14 n15 c16), (Value.slice A18 n19 c20)]) ta26 ts26 rfl rfl (wd_cells 0 hw rfl rfl)) ?_
  refine el_val (v := (Value.slice A23 n24 c25)) (wanted_n rfl) rfl rfl (run_pev (v := (Value.slice A23 n24 c25)) rfl) ?_
  obtain ⟨x74, hx75, h⟩ := bind_some h
  replace hw := hw.front1
  refine el_call (wanted_n rfl) rfl rfl (run_call (vals := (List.toArray [(Value.agg #[(Value.slice A2 n3 c4), (Value.slice A6 n7 c8), (Value.slice A10 n11 c12), (Value.slice A14 n15 c16), (Value.slice A18 n19 c20)]), (Value.slice A23 n24 c25)])) rfl cl33 rfl) (mend_checkPick.calls hw hs5 hs9 hs13 hs17 hs21 hk27 hx75) ?_
  rintro _ w78 ⟨f76, hle77, rfl, hw⟩
  replace hs5 := hs5.mono hle77
  replace hs9 := hs9.mono hle77
  replace hs13 := hs13.mono hle77
  replace hs17 := hs17.mono hle77
  replace hs21 := hs21.mono hle77
  replace hk27 := hk27.mono hle77
  refine el_val (v := (Value.int .i64 x74)) (wanted_n rfl) rfl rfl (run_pev (v := (Value.int .i64 x74)) rfl) ?_
  refine el_nil ?_
  refine ewp_seq ?_
  refine ewp_region ?_
  refine el_val (v := (Value.int .i64 x74)) (wanted_n rfl) rfl rfl (run_pev (v := (Value.int .i64 x74)) rfl) ?_
  refine el_val (v := (Value.bool (x74 != 0))) (wanted_n rfl) rfl rfl (run_pev (v := (Value.bool (x74 != 0))) rfl) ?_
  refine el_nil ?_
  refine ewp_cond (x74 != 0) rfl (fun hb79 => ?_) (fun hb79 => ?_)
  · replace h := ifb_t hb79 h
    refine ewp_seq ?_
    refine ewp_region ?_
    refine el_val (v := (Value.int .i64 x74)) (wanted_n rfl) rfl rfl (run_pev (v := (Value.int .i64 x74)) rfl) ?_
    refine el_val (v := (Value.slice none 0 0)) (wanted_n rfl) rfl rfl (run_pev (v := (Value.slice none 0 0)) rfl) ?_
    refine el_val (v := (Value.int .i64 x74)) (wanted_n rfl) rfl rfl (run_pev (v := (Value.int .i64 x74)) rfl) ?_
    refine el_nil ?_
    refine ewp_ret ?_
    replace hw := hw.drop_1
    obtain rfl := Option.some.inj h
    exact ⟨_, res2 rfl, f76, none, 0, 0, hle77, rfl, (SlF.nil _ _), hw⟩
  · replace h := ifb_f hb79 h
    refine ewp_skip ?_
    refine ewp_seq ?_
    refine ewp_region ?_
    refine el_val (v := (Value.agg #[(Value.slice A2 n3 c4), (Value.slice A6 n7 c8), (Value.slice A10 n11 c12), (Value.slice A14 n15 c16), (Value.slice A18 n19 c20)])) (wanted_n rfl) rfl rfl (run_loadN (ad := ⟨b71, 0, none⟩) (cs := [(Value.slice A2 n3 c4), (Value.slice A6 n7 c8), (Value.slice A10 n11 c12), (Value.slice A14 n15 c16), (Value.slice A18 n19 c20)]) ta26 ts26 rfl rfl (wd_cells 1 hw rfl rfl)) ?_
    refine el_val (v := (Value.slice A23 n24 c25)) (wanted_n rfl) rfl rfl (run_pev (v := (Value.slice A23 n24 c25)) rfl) ?_
    obtain ⟨x80, hx81, h⟩ := bind_some h
    refine el_call (wanted_n rfl) rfl rfl (run_call (vals := (List.toArray [(Value.agg #[(Value.slice A2 n3 c4), (Value.slice A6 n7 c8), (Value.slice A10 n11 c12), (Value.slice A14 n15 c16), (Value.slice A18 n19 c20)]), (Value.slice A23 n24 c25)])) rfl cl34 rfl) (mend_picked.calls hw hs5 hs9 hs13 hs17 hs21 hk27 hx81) ?_
    rintro _ w86 ⟨f82, v84, hle83, rfl, ho85, hw⟩
    replace hs5 := hs5.mono hle83
    replace hs9 := hs9.mono hle83
    replace hs13 := hs13.mono hle83
    replace hs17 := hs17.mono hle83
    replace hs21 := hs21.mono hle83
    replace hk27 := hk27.mono hle83
    refine el_val (v := (Value.tuple #[v84, (Value.bool x80.2)])) (wanted_n rfl) rfl rfl (run_pev (v := (Value.tuple #[v84, (Value.bool x80.2)])) rfl) ?_
    refine el_val (v := v84) (wanted_n rfl) rfl rfl (run_pev (v := v84) rfl) ?_
    refine el_val (v := (Value.bool x80.2)) (wanted_n rfl) rfl rfl (run_pev (v := (Value.bool x80.2)) rfl) ?_
    refine el_val (v := v84) (wanted_n rfl) rfl rfl (run_pev (v := v84) rfl) ?_
    refine el_val (v := (Value.bool x80.2)) (wanted_n rfl) rfl rfl (run_pev (v := (Value.bool x80.2)) rfl) ?_
    refine el_nil ?_
    refine ewp_seq ?_
    refine ewp_seq ?_
    refine ewp_region ?_
    refine el_val (v := (Value.bool x80.2)) (wanted_n rfl) rfl rfl (run_pev (v := (Value.bool x80.2)) rfl) ?_
    refine el_val (v := (Value.bool (!x80.2))) (wanted_n rfl) rfl rfl (run_pev (v := (Value.bool (!x80.2))) rfl) ?_
    refine el_nil ?_
    refine ewp_cond (!x80.2) rfl (fun hb87 => ?_) (fun hb87 => ?_)
    · replace h := ifb_t hb87 h
      refine ewp_seq ?_
      refine ewp_region ?_
      refine el_val (v := (Value.slice none 0 0)) (wanted_n rfl) rfl rfl (run_pev (v := (Value.slice none 0 0)) rfl) ?_
      refine el_val (v := (Value.int .i64 5)) (wanted_n rfl) rfl rfl (run_pev (v := (Value.int .i64 5)) rfl) ?_
      refine el_nil ?_
      refine ewp_ret ?_
      replace hw := hw.drop_1
      obtain rfl := Option.some.inj h
      exact ⟨_, res2 rfl, f82, none, 0, 0, (HP.le_trans hle77 hle83), rfl, (SlF.nil _ _), hw⟩
    · replace h := ifb_f hb87 h
      refine ewp_skip ?_
      refine ewp_seq ?_
      refine ewp_region ?_
      refine el_val (v := v84) (wanted_n rfl) rfl rfl (run_pev (v := v84) rfl) ?_
      obtain ⟨x88, hx89, h⟩ := bind_some h
      obtain ⟨b90, ds91, ty92, fr93, ev96, hb94, hE95⟩ := fOpt_some ho85 hx89
      obtain ⟨A97, n98, c99, A101, n102, c103, A105, n106, c107, rfl, hs100, hs104, hs108⟩ := fS_mend_solver.op hE95
      obtain rfl := ev96
      refine el_val (v := (Value.pointer (some ⟨b90, 0, none⟩))) (wanted_n rfl) rfl rfl (run_pev (v := (Value.pointer (some ⟨b90, 0, none⟩))) rfl) ?_
      refine el_val (v := (Value.pointer (some ⟨b90, 0, none⟩))) (wanted_n rfl) rfl rfl (run_fieldAddr tf73_0 (o := 0) rfl) ?_
      refine el_val (v := (Value.slice A97 n98 c99)) (wanted_n rfl) rfl rfl (run_load1 (ad := ⟨b90, 0, none⟩) ta22 rfl (hw.fz (fblk hb94 rfl))) ?_
      refine el_val (v := (Value.slice A97 n98 c99)) (wanted_n rfl) rfl rfl (run_pev (v := (Value.slice A97 n98 c99)) rfl) ?_
      refine el_val (v := (Value.int .i64 0)) (wanted_n rfl) rfl rfl (run_pev (v := (Value.int .i64 0)) rfl) ?_
      refine el_nil ?_
      refine ewp_ret ?_
      replace hw := hw.drop_1
      obtain rfl := Option.some.inj h
      exact ⟨_, res2 rfl, f82, A97, n98, c99, (HP.le_trans hle77 hle83), rfl, hs100, hw⟩
def fishkeep2_awakeMend  : Option (Bool) :=
  ((mend_Times (S_mend_Graph.mk ([] : List Int) ([] : List Int) ([] : List Int) ([] : List S_mend_Arc) ([] : List S_mend_Choice)) ([(-1)] : List Int)).bind fun (x20 : List Int × Int) => (some (x20.2 != 0)))
def fishkeep2_awakeMend.R (G : World) (f : HP) (L : List HProp) (r : Bool) : Value → World → Prop := fun v' w' =>
  ∃ (f' : HP), HP.le f f' ∧ v' = (Value.bool r) ∧ Wd G w' f' (L)
theorem fishkeep2_awakeMend.calls {G w : World} {f : HP} {L : List HProp}   (hw : Wd G w f (L))  {r : Bool} (h : fishkeep2_awakeMend = some r) :
    Calls Try.prog 7 #[] w (Returns (fishkeep2_awakeMend.R G f L r)) := by
  unfold fishkeep2_awakeMend at h
  refine ecalls 11 Try.func7 rfl rfl ?_
  refine ewp_seq ?_
  refine ewp_region ?_
  refine el_val (v := (Value.bool false)) (wanted_n rfl) rfl rfl (run_pev (v := (Value.bool false)) rfl) ?_
  refine el_nil ?_
  refine ewp_seq ?_
  refine ewp_region ?_
  refine el_val (v := (Value.agg #[(Value.slice none 0 0), (Value.slice none 0 0), (Value.slice none 0 0), (Value.slice none 0 0), (Value.slice none 0 0)])) (wanted_n rfl) rfl rfl (run_buildS (parts := []) (cs := [(Value.slice none 0 0), (Value.slice none 0 0), (Value.slice none 0 0), (Value.slice none 0 0), (Value.slice none 0 0)]) tz26 tp26 rfl) ?_
  refine el_exv (wanted_n rfl) rfl rfl (run_buildSliceE (parts := [(0, .const (.int .i64 (-1)))]) (cs := [(Value.int .i64 (-1))]) te22 ts3 tz3 rfl tm3_1 rfl hw) ?_
  rintro w17 _ ⟨b15, rfl, hw⟩
  obtain ⟨cur18, hk19, hw⟩ := wd_arrL (E := fInt .i64) (ess := [[(Value.int .i64 (-1))]]) (xs := ([(-1)] : List Int)) ⟨rfl, trivial⟩ rfl (by decide) hw
  obtain ⟨x20, hx21, h⟩ := bind_some h
  refine el_call (wanted_n rfl) rfl rfl (run_call (vals := (List.toArray [(Value.agg #[(Value.slice none 0 0), (Value.slice none 0 0), (Value.slice none 0 0), (Value.slice none 0 0), (Value.slice none 0 0)]), (Value.slice (some ⟨b15, 0, none⟩) 1 1)])) rfl cl10 rfl) (mend_Times.calls hw (SlF.nil _ _) (SlF.nil _ _) (SlF.nil _ _) (SlF.nil _ _) (SlF.nil _ _) hk19 hx21) ?_
  rintro _ w28 ⟨f22, A24, n25, c26, hle23, rfl, hs27, hw⟩
  replace hk19 := hk19.mono hle23
  refine el_val (v := (Value.tuple #[(Value.slice A24 n25 c26), (Value.int .i64 x20.2)])) (wanted_n rfl) rfl rfl (run_pev (v := (Value.tuple #[(Value.slice A24 n25 c26), (Value.int .i64 x20.2)])) rfl) ?_
  refine el_val (v := (Value.slice A24 n25 c26)) (wanted_n rfl) rfl rfl (run_pev (v := (Value.slice A24 n25 c26)) rfl) ?_
  refine el_val (v := (Value.int .i64 x20.2)) (wanted_n rfl) rfl rfl (run_pev (v := (Value.int .i64 x20.2)) rfl) ?_
  refine el_val (v := (Value.slice A24 n25 c26)) (wanted_n rfl) rfl rfl (run_pev (v := (Value.slice A24 n25 c26)) rfl) ?_
  refine el_val (v := (Value.int .i64 x20.2)) (wanted_n rfl) rfl rfl (run_pev (v := (Value.int .i64 x20.2)) rfl) ?_
  refine el_nil ?_
  refine ewp_seq ?_
  refine ewp_region ?_
  refine el_val (v := (Value.int .i64 x20.2)) (wanted_n rfl) rfl rfl (run_pev (v := (Value.int .i64 x20.2)) rfl) ?_
  refine el_val (v := (Value.bool (x20.2 != 0))) (wanted_n rfl) rfl rfl (run_pev (v := (Value.bool (x20.2 != 0))) rfl) ?_
  refine el_val (v := (Value.bool (x20.2 != 0))) (wanted_n rfl) rfl rfl (run_pev (v := (Value.bool (x20.2 != 0))) rfl) ?_
  refine el_nil ?_
  refine ewp_ret ?_
  replace hw := hw.drop_0
  obtain rfl := Option.some.inj h
  exact ⟨_, res1 rfl, f22, hle23, rfl, hw⟩
def mend_checkPick_v2.R (G : World) (f : HP) (L : List HProp) (A2 : Option Addr) (n3 : Nat) (c4 : Nat) (A6 : Option Addr) (n7 : Nat) (c8 : Nat) (A10 : Option Addr) (n11 : Nat) (c12 : Nat) (A14 : Option Addr) (n15 : Nat) (c16 : Nat) (A18 : Option Addr) (n19 : Nat) (c20 : Nat) (A23 : Option Addr) (n24 : Nat) (c25 : Nat) (p1 : S_mend_Graph) (p22 : List Int) (r : Int) : Value → World → Prop := fun v' w' =>
  ∃ (f' : HP), HP.le f f' ∧ v' = (Value.int .i64 r) ∧ Wd G w' f' (L)
theorem mend_checkPick_v2.calls {G w : World} {f : HP} {L : List HProp} {A2 : Option Addr} {n3 : Nat} {c4 : Nat} {A6 : Option Addr} {n7 : Nat} {c8 : Nat} {A10 : Option Addr} {n11 : Nat} {c12 : Nat} {A14 : Option Addr} {n15 : Nat} {c16 : Nat} {A18 : Option Addr} {n19 : Nat} {c20 : Nat} {A23 : Option Addr} {n24 : Nat} {c25 : Nat} {p1 : S_mend_Graph} {p22 : List Int} (hw : Wd G w f (L)) (hs5 : SlF f (fInt .i64) A2 n3 c4 p1.Ready) (hs9 : SlF f (fInt .i64) A6 n7 c8 p1.Last) (hs13 : SlF f (fInt .i64) A10 n11 c12 p1.Due) (hs17 : SlF f fS_mend_Arc A14 n15 c16 p1.Arcs) (hs21 : SlF f fS_mend_Choice A18 n19 c20 p1.Choices) (hs26 : SlF f (fInt .i64) A23 n24 c25 p22) {r : Int} (h : mend_checkPick p1 p22 = some r) :
    Calls Try.prog 33 #[(Value.agg #[(Value.slice A2 n3 c4), (Value.slice A6 n7 c8), (Value.slice A10 n11 c12), (Value.slice A14 n15 c16), (Value.slice A18 n19 c20)]), (Value.slice A23 n24 c25)] w (Returns (mend_checkPick_v2.R G f L A2 n3 c4 A6 n7 c8 A10 n11 c12 A14 n15 c16 A18 n19 c20 A23 n24 c25 p1 p22 r)) := by
  unfold mend_checkPick at h
  refine ecalls 37 Try.func33 rfl rfl ?_
  refine ewp_seq ?_
  refine ewp_region ?_
  refine el_exv (wanted_n rfl) rfl rfl (run_boxE (cs := [(Value.slice A2 n3 c4), (Value.slice A6 n7 c8), (Value.slice A10 n11 c12), (Value.slice A14 n15 c16), (Value.slice A18 n19 c20)]) rfl rfl hw) ?_
  rintro w69 _ ⟨b67, rfl, hw⟩
  refine el_val (v := (Value.int .i64 0)) (wanted_n rfl) rfl rfl (run_pev (v := (Value.int .i64 0)) rfl) ?_
  refine el_nil ?_
  refine ewp_seq ?_
  refine ewp_seq ?_
  refine ewp_region ?_
  refine el_val (v := (Value.agg #[(Value.slice A2 n3 c4), (Value.slice A6 n7 c8), (Value.slice A10 n11 c12), (Value.slice A14 n15 c16), (Value.slice A18 n19 c20)])) (wanted_n rfl) rfl rfl (run_loadN (ad := ⟨b67, 0, none⟩) (cs := [(Value.slice A2 n3 c4), (Value.slice A6 n7 c8), (Value.slice A10 n11 c12), (Value.slice A14 n15 c16), (Value.slice A18 n19 c20)]) ta26 ts26 rfl rfl (wd_cells 0 hw rfl rfl)) ?_
  obtain ⟨x70, hx71, h⟩ := bind_some h
  refine el_call (wanted_n rfl) rfl rfl (run_call (vals := (List.toArray [(Value.agg #[(Value.slice A2 n3 c4), (Value.slice A6 n7 c8), (Value.slice A10 n11 c12), (Value.slice A14 n15 c16), (Value.slice A18 n19 c20)])])) rfl cl36 rfl) (mend_CheckGraph.calls hw hs5 hs9 hs13 hs17 hs21 hx71) ?_
  rintro _ w74 ⟨f72, hle73, rfl, hw⟩
  replace hs5 := hs5.mono hle73
  replace hs9 := hs9.mono hle73
  replace hs13 := hs13.mono hle73
  replace hs17 := hs17.mono hle73
  replace hs21 := hs21.mono hle73
  replace hs26 := hs26.mono hle73
  refine el_val (v := (Value.int .i64 x70)) (wanted_n rfl) rfl rfl (run_pev (v := (Value.int .i64 x70)) rfl) ?_
  refine el_nil ?_
  refine ewp_seq ?_
  refine ewp_region ?_
  refine el_val (v := (Value.int .i64 x70)) (wanted_n rfl) rfl rfl (run_pev (v := (Value.int .i64 x70)) rfl) ?_
  refine el_val (v := (Value.bool (x70 != 0))) (wanted_n rfl) rfl rfl (run_pev (v := (Value.bool (x70 != 0))) rfl) ?_
  refine el_nil ?_
  refine ewp_cond (x70 != 0) rfl (fun hb75 => ?_) (fun hb75 => ?_)
  · replace h := ifb_t hb75 h
    refine ewp_seq ?_
    refine ewp_region ?_
    refine el_val (v := (Value.int .i64 x70)) (wanted_n rfl) rfl rfl (run_pev (v := (Value.int .i64 x70)) rfl) ?_
    refine el_val (v := (Value.int .i64 x70)) (wanted_n rfl) rfl rfl (run_pev (v := (Value.int .i64 x70)) rfl) ?_
    refine el_nil ?_
    refine ewp_ret ?_
    replace hw := hw.drop_0
    obtain rfl := Option.some.inj h
    exact ⟨_, res1 rfl, f72, hle73, rfl, hw⟩
  · replace h := ifb_f hb75 h
    refine ewp_skip ?_
    refine ewp_seq ?_
    refine ewp_seq ?_
    refine ewp_region ?_
    refine el_val (v := (Value.slice A23 n24 c25)) (wanted_n rfl) rfl rfl (run_pev (v := (Value.slice A23 n24 c25)) rfl) ?_
    refine el_val (v := (Value.int .i64 (p22.length : Int))) (wanted_n rfl) rfl rfl (run_lenS te22 rfl hs26.len) ?_
    refine el_val (v := (Value.pointer (some ⟨b67, 4, none⟩))) (wanted_n rfl) rfl rfl (run_fieldAddr tf26_4 (o := 0) rfl) ?_
    refine el_val (v := (Value.slice A18 n19 c20)) (wanted_n rfl) rfl rfl (run_load1 (ad := ⟨b67, 4, none⟩) ta24 rfl (wd_cell 0 hw rfl rfl)) ?_
    refine el_val (v := (Value.int .i64 (p1.Choices.length : Int))) (wanted_n rfl) rfl rfl (run_lenS te24 rfl hs21.len) ?_
    refine el_val (v := (Value.bool ((p22.length : Int) != (p1.Choices.length : Int)))) (wanted_n rfl) rfl rfl (run_pev (v := (Value.bool ((p22.length : Int) != (p1.Choices.length : Int)))) rfl) ?_
    refine el_nil ?_
    refine ewp_cond ((p22.length : Int) != (p1.Choices.length : Int)) rfl (fun hb76 => ?_) (fun hb76 => ?_)
    · replace h := ifb_t hb76 h
      refine ewp_seq ?_
      refine ewp_region ?_
      refine el_val (v := (Value.int .i64 1)) (wanted_n rfl) rfl rfl (run_pev (v := (Value.int .i64 1)) rfl) ?_
      refine el_nil ?_
      refine ewp_ret ?_
      replace hw := hw.drop_0
      obtain rfl := Option.some.inj h
      exact ⟨_, res1 rfl, f72, hle73, rfl, hw⟩
    · replace h := ifb_f hb76 h
      refine ewp_skip ?_
      refine ewp_seq ?_
      refine ewp_seq ?_
      refine ewp_region ?_
      refine el_val (v := (Value.slice A23 n24 c25)) (wanted_n rfl) rfl rfl (run_pev (v := (Value.slice A23 n24 c25)) rfl) ?_
      refine el_val (v := (Value.int .i64 (p22.length : Int))) (wanted_n rfl) rfl rfl (run_lenS te22 rfl hs26.len) ?_
      refine el_val (v := (Value.int .i64 0)) (wanted_n rfl) rfl rfl (run_pev (v := (Value.int .i64 0)) rfl) ?_
      refine el_nil ?_
      obtain ⟨c107, hc108, h⟩ := bind_some h
      refine ewp_M (fun ρ' w' => ∃ s77, c107 = .go s77 ∧ ∃ (f78 : HP), HP.le f72 f78 ∧ Live ρ' [] ∧ Wd G w' f78 (Blk b67 (.cells (List.toArray [(Value.slice A2 n3 c4), (Value.slice A6 n7 c8), (Value.slice A10 n11 c12), (Value.slice A14 n15 c16), (Value.slice A18 n19 c20)]) 26 (0, 0)) :: L)) (fun ρ' w' => ∃ x_, c107 = .out x_ ∧ (x_ = r → RetPost Try.prog Try.f33 (mend_checkPick_v2.R G f L A2 n3 c4 A6 n7 c8 A10 n11 c12 A14 n15 c16 A18 n19 c20 A23 n24 c25 p1 p22 r) .ret ρ' w')) noX ?_ ?_ ?_ ?_
      · refine ewp_block ?_
        refine ewp_forC (fun (i109 : Nat) (s77 : Unit) ρ' w' => ∃ (f78 : HP), HP.le f72 f78 ∧ Live ρ' [(2, (Value.pointer (some ⟨b67, 0, none⟩))), (19, (Value.slice A23 n24 c25)), (20, (Value.int .i64 (p22.length : Int))), (21, (Value.int .i64 (i109 : Int)))] ∧ Wd G w' f78 (Blk b67 (.cells (List.toArray [(Value.slice A2 n3 c4), (Value.slice A6 n7 c8), (Value.slice A10 n11 c12), (Value.slice A14 n15 c16), (Value.slice A18 n19 c20)]) 26 (0, 0)) :: L)) hc108 ⟨f72, (HP.le_refl _), ⟨rfl, rfl, rfl, rfl, trivial⟩, hw⟩ ?_ ?_
        · rintro i109 x110 s77 ct113 ρ111 w112 hx h ⟨f78, hle79, hl80, hw⟩
          unfold mend_checkPick_b2 at h
          first | refine ewp_live hl80 fun ρ114 => ?_ | rw [← hl80.eq]
          replace hs5 := hs5.mono hle79
          replace hs9 := hs9.mono hle79
          replace hs13 := hs13.mono hle79
          replace hs17 := hs17.mono hle79
          replace hs21 := hs21.mono hle79
          replace hs26 := hs26.mono hle79
          refine ewp_seq ?_
          refine ewp_region ?_
          refine el_val (v := (Value.bool (decide ((i109 : Int) < (p22.length : Int))))) (wanted_n rfl) rfl rfl (run_pev (v := (Value.bool (decide ((i109 : Int) < (p22.length : Int))))) rfl) ?_
          refine el_nil ?_
          refine ewp_seq ?_
          refine ewp_cond_t rfl (lt_len hx) ?_
          refine ewp_skip ?_
          refine ewp_seq ?_
          refine ewp_block ?_
          refine ewp_seq ?_
          refine ewp_region ?_
          refine el_val (v := (Value.int .i64 (i109 : Int))) (wanted_n rfl) rfl rfl (run_pev (v := (Value.int .i64 (i109 : Int))) rfl) ?_
          obtain ⟨b115, of116, es117, hA118, hc119, he120⟩ := sl_el hs26 (idx_nat hx)
          obtain rfl : es117 = _ := he120
          refine el_val (v := (Value.pointer (some (eAdr A23 (((i109 : Int)).toNat * 1))))) (wanted_n rfl) rfl rfl (run_idx te22 ts3 rfl hs26.len rfl (idx_nat hx) hA118) ?_
          refine el_val (v := (Value.int .i64 x110)) (wanted_n rfl) rfl rfl (run_load1 (ad := (eAdr A23 (((i109 : Int)).toNat * 1))) ta3 rfl (hw.fz (hc119 0 _ rfl))) ?_
          refine el_val (v := (Value.int .i64 (i109 : Int))) (wanted_n rfl) rfl rfl (run_pev (v := (Value.int .i64 (i109 : Int))) rfl) ?_
          refine el_val (v := (Value.int .i64 x110)) (wanted_n rfl) rfl rfl (run_pev (v := (Value.int .i64 x110)) rfl) ?_
          refine el_nil ?_
          refine ewp_seq ?_
          refine ewp_region ?_
          refine el_val (v := (Value.int .i64 x110)) (wanted_n rfl) rfl rfl (run_pev (v := (Value.int .i64 x110)) rfl) ?_
          refine el_val (v := (Value.pointer (some ⟨b67, 4, none⟩))) (wanted_n rfl) rfl rfl (run_fieldAddr tf26_4 (o := 0) rfl) ?_
          refine el_val (v := (Value.slice A18 n19 c20)) (wanted_n rfl) rfl rfl (run_load1 (ad := ⟨b67, 4, none⟩) ta24 rfl (wd_cell 0 hw rfl rfl)) ?_
          refine el_val (v := (Value.int .i64 (i109 : Int))) (wanted_n rfl) rfl rfl (run_pev (v := (Value.int .i64 (i109 : Int))) rfl) ?_
          obtain ⟨x121, hx122, h⟩ := bind_some h
          obtain ⟨b123, of124, es125, hA126, hc127, he128⟩ := sl_el hs21 hx122
          obtain ⟨A129, n130, c131, rfl, hs132⟩ := fS_mend_Choice.op he128
          refine el_val (v := (Value.pointer (some (eAdr A18 (((i109 : Int)).toNat * 1))))) (wanted_n rfl) rfl rfl (run_idx te24 ts37 rfl hs21.len rfl hx122 hA126) ?_
          refine el_val (v := (Value.pointer (some (eAdr A18 (((i109 : Int)).toNat * 1))))) (wanted_n rfl) rfl rfl (run_fieldEl tf37_0 rfl rfl rfl) ?_
          refine el_val (v := (Value.slice A129 n130 c131)) (wanted_n rfl) rfl rfl (run_load1 (ad := (eAdr A18 (((i109 : Int)).toNat * 1))) ta35 rfl (hw.fz (hc127 0 _ rfl))) ?_
          refine el_val (v := (Value.int .i64 (x121.Ways.length : Int))) (wanted_n rfl) rfl rfl (run_lenS te35 rfl hs132.len) ?_
          obtain ⟨x133, hx134, h⟩ := bind_some h
          refine el_call (wanted_n rfl) rfl rfl (run_call (vals := (List.toArray [(Value.int .i64 x110), (Value.int .i64 0), (Value.int .i64 (x121.Ways.length : Int))])) rfl cl37 rfl) (mend_within.calls hw  hx134) ?_
          rintro _ w137 ⟨f135, hle136, rfl, hw⟩
          replace hs5 := hs5.mono hle136
          replace hs9 := hs9.mono hle136
          replace hs13 := hs13.mono hle136
          replace hs17 := hs17.mono hle136
          replace hs21 := hs21.mono hle136
          replace hs26 := hs26.mono hle136
          replace hc119 := fun j v hv => hcell_le hle136 (hc119 j v hv)
          replace hs132 := hs132.mono hle136
          replace hc127 := fun j v hv => hcell_le hle136 (hc127 j v hv)
          refine el_val (v := (Value.bool (!x133))) (wanted_n rfl) rfl rfl (run_pev (v := (Value.bool (!x133))) rfl) ?_
          refine el_nil ?_
          refine ewp_cond (!x133) rfl (fun hb138 => ?_) (fun hb138 => ?_)
          · replace h := ifb_t hb138 h
            refine ewp_seq ?_
            refine ewp_region ?_
            refine el_val (v := (Value.int .i64 2)) (wanted_n rfl) rfl rfl (run_pev (v := (Value.int .i64 2)) rfl) ?_
            refine el_nil ?_
            refine ewp_ret ?_
            replace hw := hw.drop_0
            obtain rfl := Option.some.inj h
            refine ⟨_, rfl, fun hf => ⟨_, hf, fun hr => ?_⟩⟩
            subst hr
            exact ⟨_, res1 rfl, f135, (HP.le_trans (HP.le_trans hle73 hle79) hle136), rfl, hw⟩
          · replace h := ifb_f hb138 h
            refine ewp_skip ?_
            refine ewp_region ?_
            refine el_val (v := (Value.int .i64 (w64 ((i109 : Int) + 1)))) (wanted_n rfl) rfl rfl (run_pev (v := (Value.int .i64 (w64 ((i109 : Int) + 1)))) rfl) ?_
            refine el_val (v := (Value.int .i64 (w64 ((i109 : Int) + 1)))) (wanted_n rfl) rfl rfl (run_pev (v := (Value.int .i64 (w64 ((i109 : Int) + 1)))) rfl) ?_
            refine el_nil ?_
            obtain rfl := Option.some.inj h
            exact ⟨_, rfl, f135, (HP.le_trans hle79 hle136), ⟨rfl, rfl, rfl, (congrArg (Value.int .i64) (succ_w64 hs26.room hx)), trivial⟩, hw⟩
        · rintro s77 ρ139 w140 hfin141 ⟨f78, hle79, hl80, hw⟩
          first | refine ewp_live hl80 fun ρ142 => ?_ | rw [← hl80.eq]
          replace hs5 := hs5.mono hle79
          replace hs9 := hs9.mono hle79
          replace hs13 := hs13.mono hle79
          replace hs17 := hs17.mono hle79
          replace hs21 := hs21.mono hle79
          replace hs26 := hs26.mono hle79
          refine ewp_seq ?_
          refine ewp_region ?_
          refine el_val (v := (Value.bool (decide ((p22.length : Int) < (p22.length : Int))))) (wanted_n rfl) rfl rfl (run_pev (v := (Value.bool (decide ((p22.length : Int) < (p22.length : Int))))) rfl) ?_
          refine el_nil ?_
          refine ewp_seq ?_
          refine ewp_cond_f rfl (nlt_self _) ?_
          refine ewp_exit ?_
          exact ⟨s77, hfin141, f78, hle79, trivial, hw⟩
      · rintro ρ143 w144 ⟨s77, rfl, f78, hle79, hl80, hw⟩
        replace h := on_go h
        first | refine ewp_live hl80 fun ρ145 => ?_ | rw [← hl80.eq]
        replace hs5 := hs5.mono hle79
        replace hs9 := hs9.mono hle79
        replace hs13 := hs13.mono hle79
        replace hs17 := hs17.mono hle79
        replace hs21 := hs21.mono hle79
        replace hs26 := hs26.mono hle79
        refine ewp_seq ?_
        refine ewp_region ?_
        refine el_val (v := (Value.int .i64 0)) (wanted_n rfl) rfl rfl (run_pev (v := (Value.int .i64 0)) rfl) ?_
        refine el_nil ?_
        refine ewp_ret ?_
        replace hw := hw.drop_0
        obtain rfl := Option.some.inj h
        exact ⟨_, res1 rfl, f78, (HP.le_trans hle73 hle79), rfl, hw⟩
      · rintro ρ146 w147 ⟨x148, rfl, hq149⟩
        replace h := on_out h
        obtain rfl := Option.some.inj h
        exact hq149 rfl
      · exact fun _ _ _ h => h.elim
def mend_picked_v2.R (G : World) (f : HP) (L : List HProp) (A2 : Option Addr) (n3 : Nat) (c4 : Nat) (A6 : Option Addr) (n7 : Nat) (c8 : Nat) (A10 : Option Addr) (n11 : Nat) (c12 : Nat) (A14 : Option Addr) (n15 : Nat) (c16 : Nat) (A18 : Option Addr) (n19 : Nat) (c20 : Nat) (A23 : Option Addr) (n24 : Nat) (c25 : Nat) (p1 : S_mend_Graph) (p22 : List Int) (r : Option S_mend_solver × Bool) : Value → World → Prop := fun v' w' =>
  ∃ (f' : HP) (v165 : Value), HP.le f f' ∧ v' = (Value.tuple #[v165, (Value.bool r.2)]) ∧ (fOpt fS_mend_solver).p f' [v165] r.1 ∧ Wd G w' f' (L)
theorem mend_picked_v2.calls {G w : World} {f : HP} {L : List HProp} {A2 : Option Addr} {n3 : Nat} {c4 : Nat} {A6 : Option Addr} {n7 : Nat} {c8 : Nat} {A10 : Option Addr} {n11 : Nat} {c12 : Nat} {A14 : Option Addr} {n15 : Nat} {c16 : Nat} {A18 : Option Addr} {n19 : Nat} {c20 : Nat} {A23 : Option Addr} {n24 : Nat} {c25 : Nat} {p1 : S_mend_Graph} {p22 : List Int} (hw : Wd G w f (L)) (hs5 : SlF f (fInt .i64) A2 n3 c4 p1.Ready) (hs9 : SlF f (fInt .i64) A6 n7 c8 p1.Last) (hs13 : SlF f (fInt .i64) A10 n11 c12 p1.Due) (hs17 : SlF f fS_mend_Arc A14 n15 c16 p1.Arcs) (hs21 : SlF f fS_mend_Choice A18 n19 c20 p1.Choices) (hs26 : SlF f (fInt .i64) A23 n24 c25 p22) {r : Option S_mend_solver × Bool} (h : mend_picked p1 p22 = some r) :
    Calls Try.prog 34 #[(Value.agg #[(Value.slice A2 n3 c4), (Value.slice A6 n7 c8), (Value.slice A10 n11 c12), (Value.slice A14 n15 c16), (Value.slice A18 n19 c20)]), (Value.slice A23 n24 c25)] w (Returns (mend_picked_v2.R G f L A2 n3 c4 A6 n7 c8 A10 n11 c12 A14 n15 c16 A18 n19 c20 A23 n24 c25 p1 p22 r)) := by
  unfold mend_picked at h
  refine ecalls 45 Try.func34 rfl rfl ?_
  refine ewp_seq ?_
  refine ewp_region ?_
  refine el_exv (wanted_n rfl) rfl rfl (run_boxE (cs := [(Value.slice A2 n3 c4), (Value.slice A6 n7 c8), (Value.slice A10 n11 c12), (Value.slice A14 n15 c16), (Value.slice A18 n19 c20)]) rfl rfl hw) ?_
  rintro w169 _ ⟨b167, rfl, hw⟩
  refine el_val (v := (Value.pointer none)) (wanted_n rfl) rfl rfl (run_pev (v := (Value.pointer none)) rfl) ?_
  refine el_val (v := (Value.bool false)) (wanted_n rfl) rfl rfl (run_pev (v := (Value.bool false)) rfl) ?_
  refine el_nil ?_
  refine ewp_seq ?_
  refine ewp_region ?_
  refine el_val (v := (Value.agg #[(Value.slice A2 n3 c4), (Value.slice A6 n7 c8), (Value.slice A10 n11 c12), (Value.slice A14 n15 c16), (Value.slice A18 n19 c20)])) (wanted_n rfl) rfl rfl (run_loadN (ad := ⟨b167, 0, none⟩) (cs := [(Value.slice A2 n3 c4), (Value.slice A6 n7 c8), (Value.slice A10 n11 c12), (Value.slice A14 n15 c16), (Value.slice A18 n19 c20)]) ta26 ts26 rfl rfl (wd_cells 0 hw rfl rfl)) ?_
  obtain ⟨x170, hx171, h⟩ := bind_some h
  refine el_call (wanted_n rfl) rfl rfl (run_call (vals := (List.toArray [(Value.agg #[(Value.slice A2 n3 c4), (Value.slice A6 n7 c8), (Value.slice A10 n11 c12), (Value.slice A14 n15 c16), (Value.slice A18 n19 c20)])])) rfl cl42 rfl) (mend_start.calls hw hs5 hs9 hs13 hs17 hs21 hx171) ?_
  rintro _ w176 ⟨f172, v174, hle173, rfl, ho175, hw⟩
  replace hs5 := hs5.mono hle173
  replace hs9 := hs9.mono hle173
  replace hs13 := hs13.mono hle173
  replace hs17 := hs17.mono hle173
  replace hs21 := hs21.mono hle173
  replace hs26 := hs26.mono hle173
  refine el_val (v := (Value.tuple #[v174, (Value.bool x170.2)])) (wanted_n rfl) rfl rfl (run_pev (v := (Value.tuple #[v174, (Value.bool x170.2)])) rfl) ?_
  refine el_val (v := v174) (wanted_n rfl) rfl rfl (run_pev (v := v174) rfl) ?_
  refine el_val (v := (Value.bool x170.2)) (wanted_n rfl) rfl rfl (run_pev (v := (Value.bool x170.2)) rfl) ?_
  refine el_val (v := v174) (wanted_n rfl) rfl rfl (run_pev (v := v174) rfl) ?_
  refine el_val (v := (Value.bool x170.2)) (wanted_n rfl) rfl rfl (run_pev (v := (Value.bool x170.2)) rfl) ?_
  refine el_nil ?_
  refine ewp_seq ?_
  refine ewp_seq ?_
  refine ewp_region ?_
  refine el_val (v := (Value.slice A23 n24 c25)) (wanted_n rfl) rfl rfl (run_pev (v := (Value.slice A23 n24 c25)) rfl) ?_
  refine el_val (v := (Value.int .i64 (p22.length : Int))) (wanted_n rfl) rfl rfl (run_lenS te22 rfl hs26.len) ?_
  refine el_val (v := (Value.int .i64 0)) (wanted_n rfl) rfl rfl (run_pev (v := (Value.int .i64 0)) rfl) ?_
  refine el_nil ?_
  obtain ⟨c305, hc306, h⟩ := bind_some h
  refine ewp_M (fun ρ' w' => ∃ s240, c305 = .go s240 ∧ ∃ (f241 : HP) (v244 : Value), HP.le f172 f241 ∧ (fOpt fS_mend_solver).p f241 [v244] s240.1 ∧ Live ρ' [(6, v244), (7, (Value.bool s240.2))] ∧ Wd G w' f241 (Blk b167 (.cells (List.toArray [(Value.slice A2 n3 c4), (Value.slice A6 n7 c8), (Value.slice A10 n11 c12), (Value.slice A14 n15 c16), (Value.slice A18 n19 c20)]) 26 (0, 0)) :: L)) noE noX ?_ ?_ ?_ ?_
  · refine ewp_block ?_
    refine ewp_forC (fun (i307 : Nat) (s240 : Option S_mend_solver × Bool) ρ' w' => ∃ (f241 : HP) (v244 : Value), HP.le f172 f241 ∧ (fOpt fS_mend_solver).p f241 [v244] s240.1 ∧ Live ρ' [(2, (Value.pointer (some ⟨b167, 0, none⟩))), (6, v244), (7, (Value.bool s240.2)), (15, (Value.slice A23 n24 c25)), (16, (Value.int .i64 (p22.length : Int))), (17, (Value.int .i64 (i307 : Int)))] ∧ Wd G w' f241 (Blk b167 (.cells (List.toArray [(Value.slice A2 n3 c4), (Value.slice A6 n7 c8), (Value.slice A10 n11 c12), (Value.slice A14 n15 c16), (Value.slice A18 n19 c20)]) 26 (0, 0)) :: L)) hc306 ⟨f172, v174, (HP.le_refl _), ho175, ⟨rfl, rfl, rfl, rfl, rfl, rfl, trivial⟩, hw⟩ ?_ ?_
    · rintro i307 x308 s240 ct311 ρ309 w310 hx h ⟨f241, v244, hle242, ho245, hl243, hw⟩
      unfold mend_picked_b2 at h
      first | refine ewp_live hl243 fun ρ312 => ?_ | rw [← hl243.eq]
      replace hs5 := hs5.mono hle242
      replace hs9 := hs9.mono hle242
      replace hs13 := hs13.mono hle242
      replace hs17 := hs17.mono hle242
      replace hs21 := hs21.mono hle242
      replace hs26 := hs26.mono hle242
      replace ho175 := (fOpt fS_mend_solver).mono hle242 ho175
      refine ewp_seq ?_
      refine ewp_region ?_
      refine el_val (v := (Value.bool (decide ((i307 : Int) < (p22.length : Int))))) (wanted_n rfl) rfl rfl (run_pev (v := (Value.bool (decide ((i307 : Int) < (p22.length : Int))))) rfl) ?_
      refine el_nil ?_
      refine ewp_seq ?_
      refine ewp_cond_t rfl (lt_len hx) ?_
      refine ewp_skip ?_
      refine ewp_seq ?_
      obtain ⟨s364, hc370, h⟩ := bind_some h
      refine ewp_N (fun ρ' w' => ∃ (f365 : HP) (v368 : Value), HP.le f241 f365 ∧ (fOpt fS_mend_solver).p f365 [v368] s364.1 ∧ Live ρ' [(2, (Value.pointer (some ⟨b167, 0, none⟩))), (6, v368), (7, (Value.bool s364.2)), (15, (Value.slice A23 n24 c25)), (16, (Value.int .i64 (p22.length : Int))), (17, (Value.int .i64 (i307 : Int)))] ∧ Wd G w' f365 (Blk b167 (.cells (List.toArray [(Value.slice A2 n3 c4), (Value.slice A6 n7 c8), (Value.slice A10 n11 c12), (Value.slice A14 n15 c16), (Value.slice A18 n19 c20)]) 26 (0, 0)) :: L)) ?_ ?_
      · replace h := hc370
        refine ewp_block ?_
        refine ewp_seq ?_
        refine ewp_region ?_
        refine el_val (v := (Value.int .i64 (i307 : Int))) (wanted_n rfl) rfl rfl (run_pev (v := (Value.int .i64 (i307 : Int))) rfl) ?_
        obtain ⟨b371, of372, es373, hA374, hc375, he376⟩ := sl_el hs26 (idx_nat hx)
        obtain rfl : es373 = _ := he376
        refine el_val (v := (Value.pointer (some (eAdr A23 (((i307 : Int)).toNat * 1))))) (wanted_n rfl) rfl rfl (run_idx te22 ts3 rfl hs26.len rfl (idx_nat hx) hA374) ?_
        refine el_val (v := (Value.int .i64 x308)) (wanted_n rfl) rfl rfl (run_load1 (ad := (eAdr A23 (((i307 : Int)).toNat * 1))) ta3 rfl (hw.fz (hc375 0 _ rfl))) ?_
        refine el_val (v := (Value.int .i64 (i307 : Int))) (wanted_n rfl) rfl rfl (run_pev (v := (Value.int .i64 (i307 : Int))) rfl) ?_
        refine el_val (v := (Value.int .i64 x308)) (wanted_n rfl) rfl rfl (run_pev (v := (Value.int .i64 x308)) rfl) ?_
        refine el_nil ?_
        refine ewp_seq ?_
        obtain ⟨s382, hc386, h⟩ := bind_some h
        refine ewp_N (fun ρ' w' => ∃ (f383 : HP), HP.le f241 f383 ∧ Live ρ' [(2, (Value.pointer (some ⟨b167, 0, none⟩))), (6, v244), (7, (Value.bool s240.2)), (8, (Value.int .i64 (i307 : Int))), (9, (Value.int .i64 x308)), (15, (Value.slice A23 n24 c25)), (16, (Value.int .i64 (p22.length : Int))), (17, (Value.int .i64 (i307 : Int))), (26, (Value.bool s382))] ∧ Wd G w' f383 (Blk b167 (.cells (List.toArray [(Value.slice A2 n3 c4), (Value.slice A6 n7 c8), (Value.slice A10 n11 c12), (Value.slice A14 n15 c16), (Value.slice A18 n19 c20)]) 26 (0, 0)) :: L)) ?_ ?_
        · replace h := hc386
          refine ewp_region ?_
          refine el_val (v := (Value.bool s240.2)) (wanted_n rfl) rfl rfl (run_pev (v := (Value.bool s240.2)) rfl) ?_
          refine el_val (v := (Value.bool s240.2)) (wanted_n rfl) rfl rfl (run_pev (v := (Value.bool s240.2)) rfl) ?_
          rcases Bool.eq_false_or_eq_true s240.2 with hb387 | hb387
          · replace h := ifb_t hb387 h
            refine el_val (v := (Value.int .i64 x308)) (wanted_y rfl rfl rfl hb387) rfl rfl (run_pev (v := (Value.int .i64 x308)) rfl) ?_
            refine el_val (v := (Value.bool (decide (x308 > 0)))) (wanted_y rfl rfl rfl hb387) rfl rfl (run_pev (v := (Value.bool (decide (x308 > 0)))) rfl) ?_
            refine el_val (v := (Value.bool (decide (x308 > 0)))) (wanted_n rfl) rfl rfl (run_pick_t rfl hb387 rfl) ?_
            refine el_nil ?_
            obtain rfl := Option.some.inj h
            exact ⟨f241, (HP.le_refl _), ⟨rfl, rfl, rfl, rfl, rfl, rfl, rfl, rfl, rfl, trivial⟩, hw⟩
          · replace h := ifb_f hb387 h
            refine el_pass (wanted_f rfl rfl rfl hb387) rfl rfl ?_
            refine el_pass (wanted_f rfl rfl rfl hb387) rfl rfl ?_
            refine el_val (v := (Value.bool false)) (wanted_n rfl) rfl rfl (run_pick_f rfl hb387 rfl) ?_
            refine el_nil ?_
            obtain rfl := Option.some.inj h
            exact ⟨f241, (HP.le_refl _), ⟨rfl, rfl, rfl, rfl, rfl, rfl, rfl, rfl, rfl, trivial⟩, hw⟩
        · rintro ρ388 w389 ⟨f383, hle384, hl385, hw⟩
          first | refine ewp_live hl385 fun ρ390 => ?_ | rw [← hl385.eq]
          replace hs5 := hs5.mono hle384
          replace hs9 := hs9.mono hle384
          replace hs13 := hs13.mono hle384
          replace hs17 := hs17.mono hle384
          replace hs21 := hs21.mono hle384
          replace hs26 := hs26.mono hle384
          replace ho175 := (fOpt fS_mend_solver).mono hle384 ho175
          replace ho245 := (fOpt fS_mend_solver).mono hle384 ho245
          replace hc375 := fun j v hv => hcell_le hle384 (hc375 j v hv)
          refine ewp_cond s382 rfl (fun hb391 => ?_) (fun hb391 => ?_)
          · replace h := ifb_t hb391 h
            refine ewp_region ?_
            refine el_val (v := v244) (wanted_n rfl) rfl rfl (run_pev (v := v244) rfl) ?_
            refine el_val (v := (Value.pointer (some ⟨b167, 4, none⟩))) (wanted_n rfl) rfl rfl (run_fieldAddr tf26_4 (o := 0) rfl) ?_
            refine el_val (v := (Value.slice A18 n19 c20)) (wanted_n rfl) rfl rfl (run_load1 (ad := ⟨b167, 4, none⟩) ta24 rfl (wd_cell 0 hw rfl rfl)) ?_
            refine el_val (v := (Value.int .i64 (i307 : Int))) (wanted_n rfl) rfl rfl (run_pev (v := (Value.int .i64 (i307 : Int))) rfl) ?_
            obtain ⟨x392, hx393, h⟩ := bind_some h
            obtain ⟨b394, of395, es396, hA397, hc398, he399⟩ := sl_el hs21 hx393
            obtain ⟨A400, n401, c402, rfl, hs403⟩ := fS_mend_Choice.op he399
            refine el_val (v := (Value.pointer (some (eAdr A18 (((i307 : Int)).toNat * 1))))) (wanted_n rfl) rfl rfl (run_idx te24 ts37 rfl hs21.len rfl hx393 hA397) ?_
            refine el_val (v := (Value.pointer (some (eAdr A18 (((i307 : Int)).toNat * 1))))) (wanted_n rfl) rfl rfl (run_fieldEl tf37_0 rfl rfl rfl) ?_
            refine el_val (v := (Value.slice A400 n401 c402)) (wanted_n rfl) rfl rfl (run_load1 (ad := (eAdr A18 (((i307 : Int)).toNat * 1))) ta35 rfl (hw.fz (hc398 0 _ rfl))) ?_
            refine el_val (v := (Value.int .i64 x308)) (wanted_n rfl) rfl rfl (run_pev (v := (Value.int .i64 x308)) rfl) ?_
            refine el_val (v := (Value.int .i64 (w64 (x308 - 1)))) (wanted_n rfl) rfl rfl (run_pev (v := (Value.int .i64 (w64 (x308 - 1)))) rfl) ?_
            obtain ⟨x404, hx405, h⟩ := bind_some h
            obtain ⟨b406, of407, es408, hA409, hc410, he411⟩ := sl_el hs403 hx405
            obtain ⟨A412, n413, c414, rfl, hs415⟩ := he411
            refine el_val (v := (Value.pointer (some (eAdr A400 ((w64 (x308 - 1)).toNat * 1))))) (wanted_n rfl) rfl rfl (run_idx te35 ts23 rfl hs403.len rfl hx405 hA409) ?_
            refine el_val (v := (Value.slice A412 n413 c414)) (wanted_n rfl) rfl rfl (run_load1 (ad := (eAdr A400 ((w64 (x308 - 1)).toNat * 1))) ta23 rfl (hw.fz (hc410 0 _ rfl))) ?_
            obtain ⟨x416, hx417, h⟩ := bind_some h
            refine el_call (wanted_n rfl) rfl rfl (run_call (vals := (List.toArray [v244, (Value.slice A412 n413 c414)])) rfl cl41 rfl) (mend_solver_with_v2.calls hw ho245 hs415 hx417) ?_
            rintro _ w422 ⟨f418, v420, hle419, rfl, ho421, hw⟩
            replace hs5 := hs5.mono hle419
            replace hs9 := hs9.mono hle419
            replace hs13 := hs13.mono hle419
            replace hs17 := hs17.mono hle419
            replace hs21 := hs21.mono hle419
            replace hs26 := hs26.mono hle419
            replace ho175 := (fOpt fS_mend_solver).mono hle419 ho175
            replace ho245 := (fOpt fS_mend_solver).mono hle419 ho245
            replace hc375 := fun j v hv => hcell_le hle419 (hc375 j v hv)
            replace hs403 := hs403.mono hle419
            replace hc398 := fun j v hv => hcell_le hle419 (hc398 j v hv)
            replace hs415 := hs415.mono hle419
            replace hc410 := fun j v hv => hcell_le hle419 (hc410 j v hv)
            refine el_val (v := (Value.tuple #[v420, (Value.bool x416.2)])) (wanted_n rfl) rfl rfl (run_pev (v := (Value.tuple #[v420, (Value.bool x416.2)])) rfl) ?_
            refine el_val (v := v420) (wanted_n rfl) rfl rfl (run_pev (v := v420) rfl) ?_
            refine el_val (v := (Value.bool x416.2)) (wanted_n rfl) rfl rfl (run_pev (v := (Value.bool x416.2)) rfl) ?_
            refine el_val (v := v420) (wanted_n rfl) rfl rfl (run_pev (v := v420) rfl) ?_
            refine el_val (v := (Value.bool x416.2)) (wanted_n rfl) rfl rfl (run_pev (v := (Value.bool x416.2)) rfl) ?_
            refine el_nil ?_
            obtain rfl := Option.some.inj h
            exact ⟨f418, v420, (HP.le_trans hle384 hle419), ho421, ⟨rfl, rfl, rfl, rfl, rfl, rfl, trivial⟩, hw⟩
          · replace h := ifb_f hb391 h
            refine ewp_skip ?_
            obtain rfl := Option.some.inj h
            exact ⟨f383, v244, hle384, ho245, ⟨rfl, rfl, rfl, rfl, rfl, rfl, trivial⟩, hw⟩
      · rintro ρ423 w424 ⟨f365, v368, hle366, ho369, hl367, hw⟩
        first | refine ewp_live hl367 fun ρ425 => ?_ | rw [← hl367.eq]
        replace hs5 := hs5.mono hle366
        replace hs9 := hs9.mono hle366
        replace hs13 := hs13.mono hle366
        replace hs17 := hs17.mono hle366
        replace hs21 := hs21.mono hle366
        replace hs26 := hs26.mono hle366
        replace ho175 := (fOpt fS_mend_solver).mono hle366 ho175
        replace ho245 := (fOpt fS_mend_solver).mono hle366 ho245
        refine ewp_region ?_
        refine el_val (v := (Value.int .i64 (w64 ((i307 : Int) + 1)))) (wanted_n rfl) rfl rfl (run_pev (v := (Value.int .i64 (w64 ((i307 : Int) + 1)))) rfl) ?_
        refine el_val (v := (Value.int .i64 (w64 ((i307 : Int) + 1)))) (wanted_n rfl) rfl rfl (run_pev (v := (Value.int .i64 (w64 ((i307 : Int) + 1)))) rfl) ?_
        refine el_nil ?_
        obtain rfl := Option.some.inj h
        exact ⟨_, rfl, f365, v368, (HP.le_trans hle242 hle366), ho369, ⟨rfl, rfl, rfl, rfl, rfl, (congrArg (Value.int .i64) (succ_w64 hs26.room hx)), trivial⟩, hw⟩
    · rintro s240 ρ426 w427 hfin428 ⟨f241, v244, hle242, ho245, hl243, hw⟩
      first | refine ewp_live hl243 fun ρ429 => ?_ | rw [← hl243.eq]
      replace hs5 := hs5.mono hle242
      replace hs9 := hs9.mono hle242
      replace hs13 := hs13.mono hle242
      replace hs17 := hs17.mono hle242
      replace hs21 := hs21.mono hle242
      replace hs26 := hs26.mono hle242
      replace ho175 := (fOpt fS_mend_solver).mono hle242 ho175
      refine ewp_seq ?_
      refine ewp_region ?_
      refine el_val (v := (Value.bool (decide ((p22.length : Int) < (p22.length : Int))))) (wanted_n rfl) rfl rfl (run_pev (v := (Value.bool (decide ((p22.length : Int) < (p22.length : Int))))) rfl) ?_
      refine el_nil ?_
      refine ewp_seq ?_
      refine ewp_cond_f rfl (nlt_self _) ?_
      refine ewp_exit ?_
      exact ⟨s240, hfin428, f241, v244, hle242, ho245, ⟨rfl, rfl, trivial⟩, hw⟩
  · rintro ρ430 w431 ⟨s240, rfl, f241, v244, hle242, ho245, hl243, hw⟩
    replace h := on_go h
    first | refine ewp_live hl243 fun ρ432 => ?_ | rw [← hl243.eq]
    replace hs5 := hs5.mono hle242
    replace hs9 := hs9.mono hle242
    replace hs13 := hs13.mono hle242
    replace hs17 := hs17.mono hle242
    replace hs21 := hs21.mono hle242
    replace hs26 := hs26.mono hle242
    replace ho175 := (fOpt fS_mend_solver).mono hle242 ho175
    refine ewp_seq ?_
    refine ewp_region ?_
    refine el_val (v := v244) (wanted_n rfl) rfl rfl (run_pev (v := v244) rfl) ?_
    refine el_val (v := (Value.bool s240.2)) (wanted_n rfl) rfl rfl (run_pev (v := (Value.bool s240.2)) rfl) ?_
    refine el_val (v := v244) (wanted_n rfl) rfl rfl (run_pev (v := v244) rfl) ?_
    refine el_val (v := (Value.bool s240.2)) (wanted_n rfl) rfl rfl (run_pev (v := (Value.bool s240.2)) rfl) ?_
    refine el_nil ?_
    refine ewp_ret ?_
    replace hw := hw.drop_0
    obtain rfl := Option.some.inj h
    exact ⟨_, res2 rfl, f241, v244, (HP.le_trans hle173 hle242), rfl, ho245, hw⟩
  · exact fun _ _ h => h.elim
  · exact fun _ _ _ h => h.elim
def mend_Times_v2.R (G : World) (f : HP) (L : List HProp) (A2 : Option Addr) (n3 : Nat) (c4 : Nat) (A6 : Option Addr) (n7 : Nat) (c8 : Nat) (A10 : Option Addr) (n11 : Nat) (c12 : Nat) (A14 : Option Addr) (n15 : Nat) (c16 : Nat) (A18 : Option Addr) (n19 : Nat) (c20 : Nat) (A23 : Option Addr) (n24 : Nat) (c25 : Nat) (p1 : S_mend_Graph) (p22 : List Int) (r : List Int × Int) : Value → World → Prop := fun v' w' =>
  ∃ (f' : HP) (A65 : Option Addr) (n66 : Nat) (c67 : Nat), HP.le f f' ∧ v' = (Value.tuple #[(Value.slice A65 n66 c67), (Value.int .i64 r.2)]) ∧ SlF f' (fInt .i64) A65 n66 c67 r.1 ∧ Wd G w' f' (L)
theorem mend_Times_v2.calls {G w : World} {f : HP} {L : List HProp} {A2 : Option Addr} {n3 : Nat} {c4 : Nat} {A6 : Option Addr} {n7 : Nat} {c8 : Nat} {A10 : Option Addr} {n11 : Nat} {c12 : Nat} {A14 : Option Addr} {n15 : Nat} {c16 : Nat} {A18 : Option Addr} {n19 : Nat} {c20 : Nat} {A23 : Option Addr} {n24 : Nat} {c25 : Nat} {p1 : S_mend_Graph} {p22 : List Int} (hw : Wd G w f (L)) (hs5 : SlF f (fInt .i64) A2 n3 c4 p1.Ready) (hs9 : SlF f (fInt .i64) A6 n7 c8 p1.Last) (hs13 : SlF f (fInt .i64) A10 n11 c12 p1.Due) (hs17 : SlF f fS_mend_Arc A14 n15 c16 p1.Arcs) (hs21 : SlF f fS_mend_Choice A18 n19 c20 p1.Choices) (hs26 : SlF f (fInt .i64) A23 n24 c25 p22) {r : List Int × Int} (h : mend_Times p1 p22 = some r) :
    Calls Try.prog 10 #[(Value.agg #[(Value.slice A2 n3 c4), (Value.slice A6 n7 c8), (Value.slice A10 n11 c12), (Value.slice A14 n15 c16), (Value.slice A18 n19 c20)]), (Value.slice A23 n24 c25)] w (Returns (mend_Times_v2.R G f L A2 n3 c4 A6 n7 c8 A10 n11 c12 A14 n15 c16 A18 n19 c20 A23 n24 c25 p1 p22 r)) := by
  unfold mend_Times at h
  refine ecalls 27 Try.func10 rfl rfl ?_
  refine ewp_seq ?_
  refine ewp_region ?_
  refine el_exv (wanted_n rfl) rfl rfl (run_boxE (cs := [(Value.slice A2 n3 c4), (Value.slice A6 n7 c8), (Value.slice A10 n11 c12), (Value.slice A14 n15 c16), (Value.slice A18 n19 c20)]) rfl rfl hw) ?_
  rintro w71 _ ⟨b69, rfl, hw⟩
  refine el_val (v := (Value.slice none 0 0)) (wanted_n rfl) rfl rfl (run_pev (v := (Value.slice none 0 0)) rfl) ?_
  refine el_val (v := (Value.int .i64 0)) (wanted_n rfl) rfl rfl (run_pev (v := (Value.int .i64 0)) rfl) ?_
  refine el_nil ?_
  refine ewp_seq ?_
  refine ewp_seq ?_
  refine ewp_region ?_
  refine el_val (v := (Value.agg #[(Value.slice A2 n3 c4), (Value.slice A6 n7 c8), (Value.slice A10 n11 c12), (Value.slice A14 n15 c16), (Value.slice A18 n19 c20)])) (wanted_n rfl) rfl rfl (run_loadN (ad := ⟨b69, 0, none⟩) (cs := [(Value.slice A2 n3 c4), (Value.slice A6 n7 c8), (Value.slice A10 n11 c12), (Value.slice A14 n15 c16), (Value.slice A18 n19 c20)]) ta26 ts26 rfl rfl (wd_cells 0 hw rfl rfl)) ?_
  refine el_val (v := (Value.slice A23 n24 c25)) (wanted_n rfl) rfl rfl (run_pev (v := (Value.slice A23 n24 c25)) rfl) ?_
  obtain ⟨x72, hx73, h⟩ := bind_some h
  refine el_call (wanted_n rfl) rfl rfl (run_call (vals := (List.toArray [(Value.agg #[(Value.slice A2 n3 c4), (Value.slice A6 n7 c8), (Value.slice A10 n11 c12), (Value.slice A14 n15 c16), (Value.slice A18 n19 c20)]), (Value.slice A23 n24 c25)])) rfl cl33 rfl) (mend_checkPick_v2.calls hw hs5 hs9 hs13 hs17 hs21 hs26 hx73) ?_
  rintro _ w76 ⟨f74, hle75, rfl, hw⟩
  replace hs5 := hs5.mono hle75
  replace hs9 := hs9.mono hle75
  replace hs13 := hs13.mono hle75
  replace hs17 := hs17.mono hle75
  replace hs21 := hs21.mono hle75
  replace hs26 := hs26.mono hle75
  refine el_val (v := (Value.int .i64 x72)) (wanted_n rfl) rfl rfl (run_pev (v := (Value.int .i64 x72)) rfl) ?_
  refine el_nil ?_
  refine ewp_seq ?_
  refine ewp_region ?_
  refine el_val (v := (Value.int .i64 x72)) (wanted_n rfl) rfl rfl (run_pev (v := (Value.int .i64 x72)) rfl) ?_
  refine el_val (v := (Value.bool (x72 != 0))) (wanted_n rfl) rfl rfl (run_pev (v := (Value.bool (x72 != 0))) rfl) ?_
  refine el_nil ?_
  refine ewp_cond (x72 != 0) rfl (fun hb77 => ?_) (fun hb77 => ?_)
  · replace h := ifb_t hb77 h
    refine ewp_seq ?_
    refine ewp_region ?_
    refine el_val (v := (Value.int .i64 x72)) (wanted_n rfl) rfl rfl (run_pev (v := (Value.int .i64 x72)) rfl) ?_
    refine el_val (v := (Value.slice none 0 0)) (wanted_n rfl) rfl rfl (run_pev (v := (Value.slice none 0 0)) rfl) ?_
    refine el_val (v := (Value.int .i64 x72)) (wanted_n rfl) rfl rfl (run_pev (v := (Value.int .i64 x72)) rfl) ?_
    refine el_nil ?_
    refine ewp_ret ?_
    replace hw := hw.drop_0
    obtain rfl := Option.some.inj h
    exact ⟨_, res2 rfl, f74, none, 0, 0, hle75, rfl, (SlF.nil _ _), hw⟩
  · replace h := ifb_f hb77 h
    refine ewp_skip ?_
    refine ewp_seq ?_
    refine ewp_region ?_
    refine el_val (v := (Value.agg #[(Value.slice A2 n3 c4), (Value.slice A6 n7 c8), (Value.slice A10 n11 c12), (Value.slice A14 n15 c16), (Value.slice A18 n19 c20)])) (wanted_n rfl) rfl rfl (run_loadN (ad := ⟨b69, 0, none⟩) (cs := [(Value.slice A2 n3 c4), (Value.slice A6 n7 c8), (Value.slice A10 n11 c12), (Value.slice A14 n15 c16), (Value.slice A18 n19 c20)]) ta26 ts26 rfl rfl (wd_cells 0 hw rfl rfl)) ?_
    refine el_val (v := (Value.slice A23 n24 c25)) (wanted_n rfl) rfl rfl (run_pev (v := (Value.slice A23 n24 c25)) rfl) ?_
    obtain ⟨x78, hx79, h⟩ := bind_some h
    refine el_call (wanted_n rfl) rfl rfl (run_call (vals := (List.toArray [(Value.agg #[(Value.slice A2 n3 c4), (Value.slice A6 n7 c8), (Value.slice A10 n11 c12), (Value.slice A14 n15 c16), (Value.slice A18 n19 c20)]), (Value.slice A23 n24 c25)])) rfl cl34 rfl) (mend_picked_v2.calls hw hs5 hs9 hs13 hs17 hs21 hs26 hx79) ?_
    rintro _ w84 ⟨f80, v82, hle81, rfl, ho83, hw⟩
    replace hs5 := hs5.mono hle81
    replace hs9 := hs9.mono hle81
    replace hs13 := hs13.mono hle81
    replace hs17 := hs17.mono hle81
    replace hs21 := hs21.mono hle81
    replace hs26 := hs26.mono hle81
    refine el_val (v := (Value.tuple #[v82, (Value.bool x78.2)])) (wanted_n rfl) rfl rfl (run_pev (v := (Value.tuple #[v82, (Value.bool x78.2)])) rfl) ?_
    refine el_val (v := v82) (wanted_n rfl) rfl rfl (run_pev (v := v82) rfl) ?_
    refine el_val (v := (Value.bool x78.2)) (wanted_n rfl) rfl rfl (run_pev (v := (Value.bool x78.2)) rfl) ?_
    refine el_val (v := v82) (wanted_n rfl) rfl rfl (run_pev (v := v82) rfl) ?_
    refine el_val (v := (Value.bool x78.2)) (wanted_n rfl) rfl rfl (run_pev (v := (Value.bool x78.2)) rfl) ?_
    refine el_nil ?_
    refine ewp_seq ?_
    refine ewp_seq ?_
    refine ewp_region ?_
    refine el_val (v := (Value.bool x78.2)) (wanted_n rfl) rfl rfl (run_pev (v := (Value.bool x78.2)) rfl) ?_
    refine el_val (v := (Value.bool (!x78.2))) (wanted_n rfl) rfl rfl (run_pev (v := (Value.bool (!x78.2))) rfl) ?_
    refine el_nil ?_
    refine ewp_cond (!x78.2) rfl (fun hb85 => ?_) (fun hb85 => ?_)
    · replace h := ifb_t hb85 h
      refine ewp_seq ?_
      refine ewp_region ?_
      refine el_val (v := (Value.slice none 0 0)) (wanted_n rfl) rfl rfl (run_pev (v := (Value.slice none 0 0)) rfl) ?_
      refine el_val (v := (Value.int .i64 5)) (wanted_n rfl) rfl rfl (run_pev (v := (Value.int .i64 5)) rfl) ?_
      refine el_nil ?_
      refine ewp_ret ?_
      replace hw := hw.drop_0
      obtain rfl := Option.some.inj h
      exact ⟨_, res2 rfl, f80, none, 0, 0, (HP.le_trans hle75 hle81), rfl, (SlF.nil _ _), hw⟩
    · replace h := ifb_f hb85 h
      refine ewp_skip ?_
      refine ewp_seq ?_
      refine ewp_region ?_
      refine el_val (v := v82) (wanted_n rfl) rfl rfl (run_pev (v := v82) rfl) ?_
      obtain ⟨x86, hx87, h⟩ := bind_some h
      obtain ⟨b88, ds89, ty90, fr91, ev94, hb92, hE93⟩ := fOpt_some ho83 hx87
      obtain ⟨A95, n96, c97, A99, n100, c101, A103, n104, c105, rfl, hs98, hs102, hs106⟩ := fS_mend_solver.op hE93
      obtain rfl := ev94
      refine el_val (v := (Value.pointer (some ⟨b88, 0, none⟩))) (wanted_n rfl) rfl rfl (run_pev (v := (Value.pointer (some ⟨b88, 0, none⟩))) rfl) ?_
      refine el_val (v := (Value.pointer (some ⟨b88, 0, none⟩))) (wanted_n rfl) rfl rfl (run_fieldAddr tf73_0 (o := 0) rfl) ?_
      refine el_val (v := (Value.slice A95 n96 c97)) (wanted_n rfl) rfl rfl (run_load1 (ad := ⟨b88, 0, none⟩) ta22 rfl (hw.fz (fblk hb92 rfl))) ?_
      refine el_val (v := (Value.slice A95 n96 c97)) (wanted_n rfl) rfl rfl (run_pev (v := (Value.slice A95 n96 c97)) rfl) ?_
      refine el_val (v := (Value.int .i64 0)) (wanted_n rfl) rfl rfl (run_pev (v := (Value.int .i64 0)) rfl) ?_
      refine el_nil ?_
      refine ewp_ret ?_
      replace hw := hw.drop_0
      obtain rfl := Option.some.inj h
      exact ⟨_, res2 rfl, f80, A95, n96, c97, (HP.le_trans hle75 hle81), rfl, hs98, hw⟩
def slices_Equal_int_int_b2 (p6 : List Int) (i59 : Nat) (x60 : Int) (s36 : Unit) : Option (Ctl (Unit) (Ctl (Unit) (Bool))) :=
  ((idx p6 (i59 : Int)).bind fun (x85 : Int) => (ifb (x60 != x85) (some (.out (.out false))) (some (.go ()))))
def slices_Equal_int_int (p1 : List Int) (p6 : List Int) : Option (Bool) :=
  (ifb ((p1.length : Int) != (p6.length : Int)) (some false) ((forC (slices_Equal_int_int_b2 p6) p1 ()).bind fun c57 => Ctl.on c57 (fun s36 => (some true)) (fun x103 => (some x103))))
def slices_Equal_int_int.R (G : World) (f : HP) (L : List HProp) (A2 : Option Addr) (n3 : Nat) (c4 : Nat) (A7 : Option Addr) (n8 : Nat) (c9 : Nat) (cur10 : Array Value) (p1 : List Int) (p6 : List Int) (r : Bool) : Value → World → Prop := fun v' w' =>
  ∃ (f' : HP), HP.le f f' ∧ v' = (Value.bool r) ∧ Wd G w' f' (Arr A7 c9 cur10 :: L)
theorem slices_Equal_int_int.calls {G w : World} {f : HP} {L : List HProp} {A2 : Option Addr} {n3 : Nat} {c4 : Nat} {A7 : Option Addr} {n8 : Nat} {c9 : Nat} {cur10 : Array Value} {p1 : List Int} {p6 : List Int} (hw : Wd G w f (Arr A7 c9 cur10 :: L)) (hs5 : SlF f (fInt .i64) A2 n3 c4 p1) (hk11 : ArrOk f (fInt .i64) A7 n8 c9 cur10 p6) {r : Bool} (h : slices_Equal_int_int p1 p6 = some r) :
    Calls Try.prog 22 #[(Value.slice A2 n3 c4), (Value.slice A7 n8 c9)] w (Returns (slices_Equal_int_int.R G f L A2 n3 c4 A7 n8 c9 cur10 p1 p6 r)) := by
  unfold slices_Equal_int_int at h
  refine ecalls 26 Try.func22 rfl rfl ?_
  refine ewp_seq ?_
  refine ewp_region ?_
  refine el_val (v := (Value.bool false)) (wanted_n rfl) rfl rfl (run_pev (v := (Value.bool false)) rfl) ?_
  refine el_nil ?_
  refine ewp_seq ?_
  refine ewp_seq ?_
  refine ewp_region ?_
  refine el_val (v := (Value.slice A2 n3 c4)) (wanted_n rfl) rfl rfl (run_pev (v := (Value.slice A2 n3 c4)) rfl) ?_
  refine el_val (v := (Value.int .i64 (p1.length : Int))) (wanted_n rfl) rfl rfl (run_lenS te22 rfl hs5.len) ?_
  refine el_val (v := (Value.slice A7 n8 c9)) (wanted_n rfl) rfl rfl (run_pev (v := (Value.slice A7 n8 c9)) rfl) ?_
  refine el_val (v := (Value.int .i64 (p6.length : Int))) (wanted_n rfl) rfl rfl (run_lenS te22 rfl hk11.len) ?_
  refine el_val (v := (Value.bool ((p1.length : Int) != (p6.length : Int)))) (wanted_n rfl) rfl rfl (run_pev (v := (Value.bool ((p1.length : Int) != (p6.length : Int)))) rfl) ?_
  refine el_nil ?_
  refine ewp_cond ((p1.length : Int) != (p6.length : Int)) rfl (fun hb35 => ?_) (fun hb35 => ?_)
  · replace h := ifb_t hb35 h
    refine ewp_seq ?_
    refine ewp_region ?_
    refine el_val (v := (Value.bool false)) (wanted_n rfl) rfl rfl (run_pev (v := (Value.bool false)) rfl) ?_
    refine el_nil ?_
    refine ewp_ret ?_
    obtain rfl := Option.some.inj h
    exact ⟨_, res1 rfl, f, (HP.le_refl _), rfl, hw⟩
  · replace h := ifb_f hb35 h
    refine ewp_skip ?_
    refine ewp_seq ?_
    refine ewp_seq ?_
    refine ewp_region ?_
    refine el_val (v := (Value.slice A2 n3 c4)) (wanted_n rfl) rfl rfl (run_pev (v := (Value.slice A2 n3 c4)) rfl) ?_
    refine el_val (v := (Value.int .i64 (p1.length : Int))) (wanted_n rfl) rfl rfl (run_lenS te22 rfl hs5.len) ?_
    refine el_val (v := (Value.int .i64 0)) (wanted_n rfl) rfl rfl (run_pev (v := (Value.int .i64 0)) rfl) ?_
    refine el_nil ?_
    obtain ⟨c57, hc58, h⟩ := bind_some h
    refine ewp_M (fun ρ' w' => ∃ s36, c57 = .go s36 ∧ ∃ (f37 : HP), HP.le f f37 ∧ Live ρ' [] ∧ Wd G w' f37 (Arr A7 c9 cur10 :: L)) (fun ρ' w' => ∃ x_, c57 = .out x_ ∧ (x_ = r → RetPost Try.prog Try.f22 (slices_Equal_int_int.R G f L A2 n3 c4 A7 n8 c9 cur10 p1 p6 r) .ret ρ' w')) noX ?_ ?_ ?_ ?_
    · refine ewp_block ?_
      refine ewp_forC (fun (i59 : Nat) (s36 : Unit) ρ' w' => ∃ (f37 : HP), HP.le f f37 ∧ Live ρ' [(0, (Value.slice A2 n3 c4)), (1, (Value.slice A7 n8 c9)), (12, (Value.int .i64 (p1.length : Int))), (13, (Value.int .i64 (i59 : Int)))] ∧ Wd G w' f37 (Arr A7 c9 cur10 :: L)) hc58 ⟨f, (HP.le_refl _), ⟨rfl, rfl, rfl, rfl, trivial⟩, hw⟩ ?_ ?_
      · rintro i59 x60 s36 ct63 ρ61 w62 hx h ⟨f37, hle38, hl39, hw⟩
        unfold slices_Equal_int_int_b2 at h
        first | refine ewp_live hl39 fun ρ64 => ?_ | rw [← hl39.eq]
        replace hs5 := hs5.mono hle38
        replace hk11 := hk11.mono hle38
        refine ewp_seq ?_
        refine ewp_region ?_
        refine el_val (v := (Value.bool (decide ((i59 : Int) < (p1.length : Int))))) (wanted_n rfl) rfl rfl (run_pev (v := (Value.bool (decide ((i59 : Int) < (p1.length : Int))))) rfl) ?_
        refine el_nil ?_
        refine ewp_seq ?_
        refine ewp_cond_t rfl (lt_len hx) ?_
        refine ewp_skip ?_
        refine ewp_seq ?_
        refine ewp_block ?_
        refine ewp_seq ?_
        refine ewp_region ?_
        refine el_val (v := (Value.int .i64 (i59 : Int))) (wanted_n rfl) rfl rfl (run_pev (v := (Value.int .i64 (i59 : Int))) rfl) ?_
        refine el_val (v := (Value.int .i64 (i59 : Int))) (wanted_n rfl) rfl rfl (run_pev (v := (Value.int .i64 (i59 : Int))) rfl) ?_
        refine el_nil ?_
        refine ewp_seq ?_
        refine ewp_draw (SW G f37 (Arr A7 c9 cur10 :: L)) [] 9 mixed ?_
        replace hw := hw.drew
        have hS := SW.of hw
        refine et_pure (i := 0) (v := (Value.slice A2 n3 c4)) rfl (by kernel_rfl) (fun _ _ _ h => h) rfl rfl (.inl ⟨(wanted_n rfl), fun _ => run_pev (v := (Value.slice A2 n3 c4)) rfl⟩) ?_
        refine et_pure (i := 1) (v := (Value.int .i64 (i59 : Int))) rfl (by kernel_rfl) (fun _ _ _ h => h) rfl rfl (.inl ⟨(wanted_n rfl), fun _ => run_pev (v := (Value.int .i64 (i59 : Int))) rfl⟩) ?_
        obtain ⟨b79, of80, es81, hA82, hc83, he84⟩ := sl_el hs5 (idx_nat hx)
        obtain rfl : es81 = _ := he84
        refine et_pure (i := 2) (v := (Value.pointer (some (eAdr A2 (((i59 : Int)).toNat * 1))))) rfl (by kernel_rfl) (fun _ _ _ h => h) rfl rfl (.inl ⟨(wanted_n rfl), fun _ => run_idx te22 ts3 rfl hs5.len rfl (idx_nat hx) hA82⟩) ?_
        refine et_first (i := 3) (v := (Value.int .i64 x60)) rfl (by kernel_rfl) (fun _ _ _ h => h) rfl rfl (.inl ⟨(wanted_n rfl), fun w9 ⟨f9, hl9, h9⟩ => run_load1 (ad := (eAdr A2 (((i59 : Int)).toNat * 1))) ta3 rfl (h9.fz (hcell_le hl9 (hc83 0 _ rfl)))⟩) hS ?_
        refine et_pure (i := 4) (v := (Value.slice A7 n8 c9)) rfl (by kernel_rfl) (fun _ _ _ h => h) rfl rfl (.inl ⟨(wanted_n rfl), fun _ => run_pev (v := (Value.slice A7 n8 c9)) rfl⟩) ?_
        refine et_pure (i := 5) (v := (Value.int .i64 (i59 : Int))) rfl (by kernel_rfl) (fun _ _ _ h => h) rfl rfl (.inl ⟨(wanted_n rfl), fun _ => run_pev (v := (Value.int .i64 (i59 : Int))) rfl⟩) ?_
        obtain ⟨x85, hx86, h⟩ := bind_some h
        obtain ⟨b87, of88, es89, hA90, hc91, he92⟩ := arr_el hk11 hx86
        obtain rfl : es89 = _ := he92
        refine et_pure (i := 6) (v := (Value.pointer (some (eAdr A7 (((i59 : Int)).toNat * 1))))) rfl (by kernel_rfl) (fun _ _ _ h => h) rfl rfl (.inl ⟨(wanted_n rfl), fun _ => run_idx te22 ts3 rfl hk11.len rfl hx86 hA90⟩) ?_
        refine et_first (i := 7) (v := (Value.int .i64 x85)) rfl (by kernel_rfl) (fun _ _ _ h => h) rfl rfl (.inl ⟨(wanted_n rfl), fun w9 ⟨f9, hl9, h9⟩ => run_load1 (ad := (eAdr A7 (((i59 : Int)).toNat * 1))) ta3 rfl (wd_arr 0 h9 rfl hA90 (hc91 0 _ rfl))⟩) hS ?_
        refine et_pure (i := 8) (v := (Value.bool (x60 != x85))) rfl (by kernel_rfl) (fun _ _ _ h => h) rfl rfl (.inl ⟨(wanted_n rfl), fun _ => run_pev (v := (Value.bool (x60 != x85))) rfl⟩) ?_
        refine et_tail rfl ?_
        refine ey_done rfl ?_
        refine ewp_cond (x60 != x85) rfl (fun hb93 => ?_) (fun hb93 => ?_)
        · replace h := ifb_t hb93 h
          refine ewp_seq ?_
          refine ewp_region ?_
          refine el_val (v := (Value.bool false)) (wanted_n rfl) rfl rfl (run_pev (v := (Value.bool false)) rfl) ?_
          refine el_nil ?_
          refine ewp_ret ?_
          obtain rfl := Option.some.inj h
          refine ⟨_, rfl, fun hf => ⟨_, hf, fun hr => ?_⟩⟩
          subst hr
          exact ⟨_, res1 rfl, f37, hle38, rfl, hw⟩
        · replace h := ifb_f hb93 h
          refine ewp_skip ?_
          refine ewp_region ?_
          refine el_val (v := (Value.int .i64 (w64 ((i59 : Int) + 1)))) (wanted_n rfl) rfl rfl (run_pev (v := (Value.int .i64 (w64 ((i59 : Int) + 1)))) rfl) ?_
          refine el_val (v := (Value.int .i64 (w64 ((i59 : Int) + 1)))) (wanted_n rfl) rfl rfl (run_pev (v := (Value.int .i64 (w64 ((i59 : Int) + 1)))) rfl) ?_
          refine el_nil ?_
          obtain rfl := Option.some.inj h
          exact ⟨_, rfl, f37, hle38, ⟨rfl, rfl, rfl, (congrArg (Value.int .i64) (succ_w64 hs5.room hx)), trivial⟩, hw⟩
      · rintro s36 ρ94 w95 hfin96 ⟨f37, hle38, hl39, hw⟩
        first | refine ewp_live hl39 fun ρ97 => ?_ | rw [← hl39.eq]
        replace hs5 := hs5.mono hle38
        replace hk11 := hk11.mono hle38
        refine ewp_seq ?_
        refine ewp_region ?_
        refine el_val (v := (Value.bool (decide ((p1.length : Int) < (p1.length : Int))))) (wanted_n rfl) rfl rfl (run_pev (v := (Value.bool (decide ((p1.length : Int) < (p1.length : Int))))) rfl) ?_
        refine el_nil ?_
        refine ewp_seq ?_
        refine ewp_cond_f rfl (nlt_self _) ?_
        refine ewp_exit ?_
        exact ⟨s36, hfin96, f37, hle38, trivial, hw⟩
    · rintro ρ98 w99 ⟨s36, rfl, f37, hle38, hl39, hw⟩
      replace h := on_go h
      first | refine ewp_live hl39 fun ρ100 => ?_ | rw [← hl39.eq]
      replace hs5 := hs5.mono hle38
      replace hk11 := hk11.mono hle38
      refine ewp_seq ?_
      refine ewp_region ?_
      refine el_val (v := (Value.bool true)) (wanted_n rfl) rfl rfl (run_pev (v := (Value.bool true)) rfl) ?_
      refine el_nil ?_
      refine ewp_ret ?_
      obtain rfl := Option.some.inj h
      exact ⟨_, res1 rfl, f37, hle38, rfl, hw⟩
    · rintro ρ101 w102 ⟨x103, rfl, hq104⟩
      replace h := on_out h
      obtain rfl := Option.some.inj h
      exact hq104 rfl
    · exact fun _ _ _ h => h.elim
def fishkeep2_graphs  : Option (Bool) :=
  ((mend_Times (S_mend_Graph.mk ([3, 0] : List Int) ([(-1), (-1)] : List Int) ([(-1), (-1)] : List Int) ([(S_mend_Arc.mk 0 1 4)] : List S_mend_Arc) ([] : List S_mend_Choice)) ([] : List Int)).bind fun (x101 : List Int × Int) => ((ifb (x101.2 == 0) ((slices_Equal_int_int x101.1 ([3, 7] : List Int)).bind fun (x136 : Bool) => (some x136)) (some false)).bind fun (s125 : Bool) => (some s125)))
def fishkeep2_graphs.R (G : World) (f : HP) (L : List HProp) (r : Bool) : Value → World → Prop := fun v' w' =>
  ∃ (f' : HP), HP.le f f' ∧ v' = (Value.bool r) ∧ Wd G w' f' (L)
theorem fishkeep2_graphs.calls {G w : World} {f : HP} {L : List HProp}   (hw : Wd G w f (L))  {r : Bool} (h : fishkeep2_graphs = some r) :
    Calls Try.prog 8 #[] w (Returns (fishkeep2_graphs.R G f L r)) := by
  unfold fishkeep2_graphs at h
  refine ecalls 22 Try.func8 rfl rfl ?_
  refine ewp_seq ?_
  refine ewp_region ?_
  refine el_val (v := (Value.bool false)) (wanted_n rfl) rfl rfl (run_pev (v := (Value.bool false)) rfl) ?_
  refine el_nil ?_
  refine ewp_seq ?_
  refine ewp_region ?_
  refine el_exv (wanted_n rfl) rfl rfl (run_buildSliceE (parts := [(0, .const (.int .i64 3)), (1, .const (.int .i64 0))]) (cs := [(Value.int .i64 3), (Value.int .i64 0)]) te22 ts3 tz3 rfl tm3_2 rfl hw) ?_
  rintro w67 _ ⟨b65, rfl, hw⟩
  refine el_exv (wanted_n rfl) rfl rfl (run_buildSliceE (parts := [(0, .const (.int .i64 (-1))), (1, .const (.int .i64 (-1)))]) (cs := [(Value.int .i64 (-1)), (Value.int .i64 (-1))]) te22 ts3 tz3 rfl tm3_2 rfl hw) ?_
  rintro w70 _ ⟨b68, rfl, hw⟩
  refine el_exv (wanted_n rfl) rfl rfl (run_buildSliceE (parts := [(0, .const (.int .i64 (-1))), (1, .const (.int .i64 (-1)))]) (cs := [(Value.int .i64 (-1)), (Value.int .i64 (-1))]) te22 ts3 tz3 rfl tm3_2 rfl hw) ?_
  rintro w73 _ ⟨b71, rfl, hw⟩
  refine el_val (v := (Value.agg #[(Value.int .i64 0), (Value.int .i64 1), (Value.int .i64 4)])) (wanted_n rfl) rfl rfl (run_buildS (parts := [(0, .const (.int .i64 0)), (1, .const (.int .i64 1)), (2, .const (.int .i64 4))]) (cs := [(Value.int .i64 0), (Value.int .i64 1), (Value.int .i64 4)]) tz34 tp34 rfl) ?_
  refine el_exv (wanted_n rfl) rfl rfl (run_buildSliceE (parts := [(0, .tmp 7)]) (cs := [(Value.int .i64 0), (Value.int .i64 1), (Value.int .i64 4)]) te23 ts34 tz34 rfl tm34_1 rfl hw) ?_
  rintro w76 _ ⟨b74, rfl, hw⟩
  refine el_val (v := (Value.agg #[(Value.slice (some ⟨b65, 0, none⟩) 2 2), (Value.slice (some ⟨b68, 0, none⟩) 2 2), (Value.slice (some ⟨b71, 0, none⟩) 2 2), (Value.slice (some ⟨b74, 0, none⟩) 1 1), (Value.slice none 0 0)])) (wanted_n rfl) rfl rfl (run_buildS (parts := [(0, .tmp 4), (1, .tmp 5), (2, .tmp 6), (3, .tmp 8)]) (cs := [(Value.slice (some ⟨b65, 0, none⟩) 2 2), (Value.slice (some ⟨b68, 0, none⟩) 2 2), (Value.slice (some ⟨b71, 0, none⟩) 2 2), (Value.slice (some ⟨b74, 0, none⟩) 1 1), (Value.slice none 0 0)]) tz26 tp26 rfl) ?_
  refine el_exv (wanted_n rfl) rfl rfl (run_allocE (cs := [(Value.slice none 0 0), (Value.slice none 0 0), (Value.slice none 0 0), (Value.slice none 0 0), (Value.slice none 0 0)]) tz26 rfl hw) ?_
  rintro w79 _ ⟨b77, rfl, hw⟩
  refine el_exu (wanted_n rfl) rfl (run_blkSetE (new := List.toArray [(Value.slice (some ⟨b65, 0, none⟩) 2 2), (Value.slice (some ⟨b68, 0, none⟩) 2 2), (Value.slice (some ⟨b71, 0, none⟩) 2 2), (Value.slice (some ⟨b74, 0, none⟩) 1 1), (Value.slice none 0 0)]) hw rfl rfl ts26 rfl rfl rfl) ?_
  rintro w80 hw
  refine el_nil ?_
  refine ewp_seq ?_
  refine ewp_region ?_
  refine el_val (v := (Value.agg #[(Value.slice (some ⟨b65, 0, none⟩) 2 2), (Value.slice (some ⟨b68, 0, none⟩) 2 2), (Value.slice (some ⟨b71, 0, none⟩) 2 2), (Value.slice (some ⟨b74, 0, none⟩) 1 1), (Value.slice none 0 0)])) (wanted_n rfl) rfl rfl (run_loadN (ad := ⟨b77, 0, none⟩) (cs := [(Value.slice (some ⟨b65, 0, none⟩) 2 2), (Value.slice (some ⟨b68, 0, none⟩) 2 2), (Value.slice (some ⟨b71, 0, none⟩) 2 2), (Value.slice (some ⟨b74, 0, none⟩) 1 1), (Value.slice none 0 0)]) ta26 ts26 rfl rfl (wd_cells 0 hw rfl rfl)) ?_
  replace hw := hw.front4
  obtain ⟨cur81, hk82, hw⟩ := wd_arrL (E := fInt .i64) (ess := [[(Value.int .i64 3)], [(Value.int .i64 0)]]) (xs := ([3, 0] : List Int)) ⟨rfl, rfl, trivial⟩ rfl (by decide) hw
  obtain ⟨f83, hle84, hs85, hw⟩ := arr_freeze hk82 hw
  replace hw := hw.front3
  obtain ⟨cur86, hk87, hw⟩ := wd_arrL (E := fInt .i64) (ess := [[(Value.int .i64 (-1))], [(Value.int .i64 (-1))]]) (xs := ([(-1), (-1)] : List Int)) ⟨rfl, rfl, trivial⟩ rfl (by decide) hw
  obtain ⟨f88, hle89, hs90, hw⟩ := arr_freeze hk87 hw
  replace hs85 := hs85.mono hle89
  replace hw := hw.front2
  obtain ⟨cur91, hk92, hw⟩ := wd_arrL (E := fInt .i64) (ess := [[(Value.int .i64 (-1))], [(Value.int .i64 (-1))]]) (xs := ([(-1), (-1)] : List Int)) ⟨rfl, rfl, trivial⟩ rfl (by decide) hw
  obtain ⟨f93, hle94, hs95, hw⟩ := arr_freeze hk92 hw
  replace hs85 := hs85.mono hle94
  replace hs90 := hs90.mono hle94
  replace hw := hw.front1
  obtain ⟨cur96, hk97, hw⟩ := wd_arrL (E := fS_mend_Arc) (ess := [[(Value.int .i64 0), (Value.int .i64 1), (Value.int .i64 4)]]) (xs := ([(S_mend_Arc.mk 0 1 4)] : List S_mend_Arc)) ⟨(fS_mend_Arc.mk (x := (S_mend_Arc.mk 0 1 4)) ), trivial⟩ rfl (by decide) hw
  obtain ⟨f98, hle99, hs100, hw⟩ := arr_freeze hk97 hw
  replace hs85 := hs85.mono hle99
  replace hs90 := hs90.mono hle99
  replace hs95 := hs95.mono hle99
  obtain ⟨x101, hx102, h⟩ := bind_some h
  refine el_call (wanted_n rfl) rfl rfl (run_call (vals := (List.toArray [(Value.agg #[(Value.slice (some ⟨b65, 0, none⟩) 2 2), (Value.slice (some ⟨b68, 0, none⟩) 2 2), (Value.slice (some ⟨b71, 0, none⟩) 2 2), (Value.slice (some ⟨b74, 0, none⟩) 1 1), (Value.slice none 0 0)]), (Value.slice none 0 0)])) rfl cl10 rfl) (mend_Times_v2.calls hw hs85 hs90 hs95 hs100 (SlF.nil _ _) (SlF.nil _ _) hx102) ?_
  rintro _ w109 ⟨f103, A105, n106, c107, hle104, rfl, hs108, hw⟩
  replace hs85 := hs85.mono hle104
  replace hs90 := hs90.mono hle104
  replace hs95 := hs95.mono hle104
  replace hs100 := hs100.mono hle104
  refine el_val (v := (Value.tuple #[(Value.slice A105 n106 c107), (Value.int .i64 x101.2)])) (wanted_n rfl) rfl rfl (run_pev (v := (Value.tuple #[(Value.slice A105 n106 c107), (Value.int .i64 x101.2)])) rfl) ?_
  refine el_val (v := (Value.slice A105 n106 c107)) (wanted_n rfl) rfl rfl (run_pev (v := (Value.slice A105 n106 c107)) rfl) ?_
  refine el_val (v := (Value.int .i64 x101.2)) (wanted_n rfl) rfl rfl (run_pev (v := (Value.int .i64 x101.2)) rfl) ?_
  refine el_val (v := (Value.slice A105 n106 c107)) (wanted_n rfl) rfl rfl (run_pev (v := (Value.slice A105 n106 c107)) rfl) ?_
  refine el_val (v := (Value.int .i64 x101.2)) (wanted_n rfl) rfl rfl (run_pev (v := (Value.int .i64 x101.2)) rfl) ?_
  refine el_nil ?_
  refine ewp_seq ?_
  obtain ⟨s125, hc129, h⟩ := bind_some h
  refine ewp_N (fun ρ' w' => ∃ (f126 : HP), HP.le f103 f126 ∧ Live ρ' [(0, (Value.bool s125))] ∧ Wd G w' f126 (Blk b77 (.cells (List.toArray [(Value.slice (some ⟨b65, 0, none⟩) 2 2), (Value.slice (some ⟨b68, 0, none⟩) 2 2), (Value.slice (some ⟨b71, 0, none⟩) 2 2), (Value.slice (some ⟨b74, 0, none⟩) 1 1), (Value.slice none 0 0)]) 26 (0, 0)) :: L)) ?_ ?_
  · replace h := hc129
    refine ewp_region ?_
    refine el_val (v := (Value.int .i64 x101.2)) (wanted_n rfl) rfl rfl (run_pev (v := (Value.int .i64 x101.2)) rfl) ?_
    refine el_val (v := (Value.bool (x101.2 == 0))) (wanted_n rfl) rfl rfl (run_pev (v := (Value.bool (x101.2 == 0))) rfl) ?_
    refine el_val (v := (Value.bool (x101.2 == 0))) (wanted_n rfl) rfl rfl (run_pev (v := (Value.bool (x101.2 == 0))) rfl) ?_
    rcases Bool.eq_false_or_eq_true (x101.2 == 0) with hb130 | hb130
    · replace h := ifb_t hb130 h
      refine el_val (v := (Value.slice A105 n106 c107)) (wanted_y rfl rfl rfl hb130) rfl rfl (run_pev (v := (Value.slice A105 n106 c107)) rfl) ?_
      refine el_exv (wanted_y rfl rfl rfl hb130) rfl rfl (run_buildSliceE (parts := [(0, .const (.int .i64 3)), (1, .const (.int .i64 7))]) (cs := [(Value.int .i64 3), (Value.int .i64 7)]) te22 ts3 tz3 rfl tm3_2 rfl hw) ?_
      rintro w133 _ ⟨b131, rfl, hw⟩
      obtain ⟨cur134, hk135, hw⟩ := wd_arrL (E := fInt .i64) (ess := [[(Value.int .i64 3)], [(Value.int .i64 7)]]) (xs := ([3, 7] : List Int)) ⟨rfl, rfl, trivial⟩ rfl (by decide) hw
      obtain ⟨x136, hx137, h⟩ := bind_some h
      refine el_call (wanted_y rfl rfl rfl hb130) rfl rfl (run_call (vals := (List.toArray [(Value.slice A105 n106 c107), (Value.slice (some ⟨b131, 0, none⟩) 2 2)])) rfl cl22 rfl) (slices_Equal_int_int.calls hw hs108 hk135 hx137) ?_
      rintro _ w140 ⟨f138, hle139, rfl, hw⟩
      replace hs85 := hs85.mono hle139
      replace hs90 := hs90.mono hle139
      replace hs95 := hs95.mono hle139
      replace hs100 := hs100.mono hle139
      replace hs108 := hs108.mono hle139
      replace hk135 := hk135.mono hle139
      refine el_val (v := (Value.bool x136)) (wanted_n rfl) rfl rfl (run_pick_t rfl hb130 rfl) ?_
      refine el_val (v := (Value.bool x136)) (wanted_n rfl) rfl rfl (run_pev (v := (Value.bool x136)) rfl) ?_
      refine el_nil ?_
      replace hw := hw.drop_0
      obtain rfl := Option.some.inj h
      exact ⟨f138, hle139, ⟨rfl, trivial⟩, hw⟩
    · replace h := ifb_f hb130 h
      refine el_pass (wanted_f rfl rfl rfl hb130) rfl rfl ?_
      refine el_pass (wanted_f rfl rfl rfl hb130) rfl rfl ?_
      refine el_pass (wanted_f rfl rfl rfl hb130) rfl rfl ?_
      refine el_val (v := (Value.bool false)) (wanted_n rfl) rfl rfl (run_pick_f rfl hb130 rfl) ?_
      refine el_val (v := (Value.bool false)) (wanted_n rfl) rfl rfl (run_pev (v := (Value.bool false)) rfl) ?_
      refine el_nil ?_
      obtain rfl := Option.some.inj h
      exact ⟨f103, (HP.le_refl _), ⟨rfl, trivial⟩, hw⟩
  · rintro ρ141 w142 ⟨f126, hle127, hl128, hw⟩
    first | refine ewp_live hl128 fun ρ143 => ?_ | rw [← hl128.eq]
    replace hs85 := hs85.mono hle127
    replace hs90 := hs90.mono hle127
    replace hs95 := hs95.mono hle127
    replace hs100 := hs100.mono hle127
    replace hs108 := hs108.mono hle127
    refine ewp_ret ?_
    replace hw := hw.drop_0
    obtain rfl := Option.some.inj h
    exact ⟨_, res1 rfl, f126, (HP.le_trans (HP.le_trans (HP.le_trans (HP.le_trans (HP.le_trans hle84 hle89) hle94) hle99) hle104) hle127), rfl, hw⟩
def fishref2_within (p1 : Int) (p2 : Int) (p3 : Int) : Option (Bool) :=
  ((ifb (decide (p1 ≥ p2)) (some (decide (p1 ≤ p3))) (some false)).bind fun (s18 : Bool) => (some s18))
def fishref2_within.R (G : World) (f : HP) (L : List HProp) (p1 : Int) (p2 : Int) (p3 : Int) (r : Bool) : Value → World → Prop := fun v' w' =>
  ∃ (f' : HP), HP.le f f' ∧ v' = (Value.bool r) ∧ Wd G w' f' (L)
theorem fishref2_within.calls {G w : World} {f : HP} {L : List HProp}  {p1 : Int} {p2 : Int} {p3 : Int} (hw : Wd G w f (L))  {r : Bool} (h : fishref2_within p1 p2 p3 = some r) :
    Calls Try.prog 48 #[(Value.int .i64 p1), (Value.int .i64 p2), (Value.int .i64 p3)] w (Returns (fishref2_within.R G f L p1 p2 p3 r)) := by
  unfold fishref2_within at h
  refine ecalls 15 Try.func48 rfl rfl ?_
  refine ewp_seq ?_
  refine ewp_region ?_
  refine el_val (v := (Value.bool false)) (wanted_n rfl) rfl rfl (run_pev (v := (Value.bool false)) rfl) ?_
  refine el_nil ?_
  refine ewp_seq ?_
  obtain ⟨s18, hc22, h⟩ := bind_some h
  refine ewp_N (fun ρ' w' => ∃ (f19 : HP), HP.le f f19 ∧ Live ρ' [(6, (Value.bool s18))] ∧ Wd G w' f19 (L)) ?_ ?_
  · replace h := hc22
    refine ewp_region ?_
    refine el_val (v := (Value.int .i64 p1)) (wanted_n rfl) rfl rfl (run_pev (v := (Value.int .i64 p1)) rfl) ?_
    refine el_val (v := (Value.int .i64 p2)) (wanted_n rfl) rfl rfl (run_pev (v := (Value.int .i64 p2)) rfl) ?_
    refine el_val (v := (Value.bool (decide (p1 ≥ p2)))) (wanted_n rfl) rfl rfl (run_pev (v := (Value.bool (decide (p1 ≥ p2)))) rfl) ?_
    refine el_val (v := (Value.bool (decide (p1 ≥ p2)))) (wanted_n rfl) rfl rfl (run_pev (v := (Value.bool (decide (p1 ≥ p2)))) rfl) ?_
    rcases Bool.eq_false_or_eq_true (decide (p1 ≥ p2)) with hb23 | hb23
    · replace h := ifb_t hb23 h
      refine el_val (v := (Value.int .i64 p1)) (wanted_y rfl rfl rfl hb23) rfl rfl (run_pev (v := (Value.int .i64 p1)) rfl) ?_
      refine el_val (v := (Value.int .i64 p3)) (wanted_y rfl rfl rfl hb23) rfl rfl (run_pev (v := (Value.int .i64 p3)) rfl) ?_
      refine el_val (v := (Value.bool (decide (p1 ≤ p3)))) (wanted_y rfl rfl rfl hb23) rfl rfl (run_pev (v := (Value.bool (decide (p1 ≤ p3)))) rfl) ?_
      refine el_val (v := (Value.bool (decide (p1 ≤ p3)))) (wanted_n rfl) rfl rfl (run_pick_t rfl hb23 rfl) ?_
      refine el_val (v := (Value.bool (decide (p1 ≤ p3)))) (wanted_n rfl) rfl rfl (run_pev (v := (Value.bool (decide (p1 ≤ p3)))) rfl) ?_
      refine el_nil ?_
      obtain rfl := Option.some.inj h
      exact ⟨f, (HP.le_refl _), ⟨rfl, trivial⟩, hw⟩
    · replace h := ifb_f hb23 h
      refine el_pass (wanted_f rfl rfl rfl hb23) rfl rfl ?_
      refine el_pass (wanted_f rfl rfl rfl hb23) rfl rfl ?_
      refine el_pass (wanted_f rfl rfl rfl hb23) rfl rfl ?_
      refine el_val (v := (Value.bool false)) (wanted_n rfl) rfl rfl (run_pick_f rfl hb23 rfl) ?_
      refine el_val (v := (Value.bool false)) (wanted_n rfl) rfl rfl (run_pev (v := (Value.bool false)) rfl) ?_
      refine el_nil ?_
      obtain rfl := Option.some.inj h
      exact ⟨f, (HP.le_refl _), ⟨rfl, trivial⟩, hw⟩
  · rintro ρ24 w25 ⟨f19, hle20, hl21, hw⟩
    first | refine ewp_live hl21 fun ρ26 => ?_ | rw [← hl21.eq]
    refine ewp_ret ?_
    obtain rfl := Option.some.inj h
    exact ⟨_, res1 rfl, f19, hle20, rfl, hw⟩
def fishref2_arcFault (p1 : S_mend_Arc) (p2 : Int) : Option (Int) :=
  ((ifb (decide (p1.From < 0)) (some true) (ifb (decide (p1.From ≥ p2)) (some true) (ifb (decide (p1.To < 0)) (some true) (some (decide (p1.To ≥ p2)))))).bind fun (s35 : Bool) => (ifb s35 (some 3) (ifb (p1.From == p1.To) (some 1) ((fishref2_within p1.Len (-28800) 28800).bind fun (x48 : Bool) => (ifb (!x48) (some 2) (some 0))))))
def fishref2_arcFault.R (G : World) (f : HP) (L : List HProp) (p1 : S_mend_Arc) (p2 : Int) (r : Int) : Value → World → Prop := fun v' w' =>
  ∃ (f' : HP), HP.le f f' ∧ v' = (Value.int .i64 r) ∧ Wd G w' f' (L)
theorem fishref2_arcFault.calls {G w : World} {f : HP} {L : List HProp}  {p1 : S_mend_Arc} {p2 : Int} (hw : Wd G w f (L))  {r : Int} (h : fishref2_arcFault p1 p2 = some r) :
    Calls Try.prog 58 #[(Value.agg #[(Value.int .i64 p1.From), (Value.int .i64 p1.To), (Value.int .i64 p1.Len)]), (Value.int .i64 p2)] w (Returns (fishref2_arcFault.R G f L p1 p2 r)) := by
  unfold fishref2_arcFault at h
  refine ecalls 37 Try.func58 rfl rfl ?_
  refine ewp_seq ?_
  refine ewp_region ?_
  refine el_exv (wanted_n rfl) rfl rfl (run_boxE (cs := [(Value.int .i64 p1.From), (Value.int .i64 p1.To), (Value.int .i64 p1.Len)]) rfl rfl hw) ?_
  rintro w27 _ ⟨b25, rfl, hw⟩
  refine el_val (v := (Value.int .i64 0)) (wanted_n rfl) rfl rfl (run_pev (v := (Value.int .i64 0)) rfl) ?_
  refine el_nil ?_
  refine ewp_seq ?_
  refine ewp_block ?_
  refine ewp_seq ?_
  obtain ⟨s35, hc39, h⟩ := bind_some h
  refine ewp_N (fun ρ' w' => ∃ (f36 : HP), HP.le f f36 ∧ Live ρ' [(2, (Value.pointer (some ⟨b25, 0, none⟩))), (5, (Value.bool s35))] ∧ Wd G w' f36 (Blk b25 (.cells (List.toArray [(Value.int .i64 p1.From), (Value.int .i64 p1.To), (Value.int .i64 p1.Len)]) 34 (0, 0)) :: L)) ?_ ?_
  · replace h := hc39
    refine ewp_region ?_
    refine el_val (v := (Value.pointer (some ⟨b25, 0, none⟩))) (wanted_n rfl) rfl rfl (run_fieldAddr tf34_0 (o := 0) rfl) ?_
    refine el_val (v := (Value.int .i64 p1.From)) (wanted_n rfl) rfl rfl (run_load1 (ad := ⟨b25, 0, none⟩) ta3 rfl (wd_cell 0 hw rfl rfl)) ?_
    refine el_val (v := (Value.bool (decide (p1.From < 0)))) (wanted_n rfl) rfl rfl (run_pev (v := (Value.bool (decide (p1.From < 0)))) rfl) ?_
    refine el_val (v := (Value.bool (decide (p1.From < 0)))) (wanted_n rfl) rfl rfl (run_pev (v := (Value.bool (decide (p1.From < 0)))) rfl) ?_
    rcases Bool.eq_false_or_eq_true (decide (p1.From < 0)) with hb40 | hb40
    · replace h := ifb_t hb40 h
      refine el_pass (wanted_f rfl rfl rfl hb40) rfl rfl ?_
      refine el_pass (wanted_f rfl rfl rfl hb40) rfl rfl ?_
      refine el_pass (wanted_f rfl rfl rfl hb40) rfl rfl ?_
      refine el_pass (wanted_f rfl rfl rfl hb40) rfl rfl ?_
      refine el_val (v := (Value.bool true)) (wanted_n rfl) rfl rfl (run_pick_t rfl hb40 rfl) ?_
      refine el_val (v := (Value.bool true)) (wanted_n rfl) rfl rfl (run_pev (v := (Value.bool true)) rfl) ?_
      refine el_pass (wanted_f rfl rfl rfl rfl) rfl rfl ?_
      refine el_pass (wanted_f rfl rfl rfl rfl) rfl rfl ?_
      refine el_pass (wanted_f rfl rfl rfl rfl) rfl rfl ?_
      refine el_val (v := (Value.bool true)) (wanted_n rfl) rfl rfl (run_pick_t rfl rfl rfl) ?_
      refine el_val (v := (Value.bool true)) (wanted_n rfl) rfl rfl (run_pev (v := (Value.bool true)) rfl) ?_
      refine el_pass (wanted_f rfl rfl rfl rfl) rfl rfl ?_
      refine el_pass (wanted_f rfl rfl rfl rfl) rfl rfl ?_
      refine el_pass (wanted_f rfl rfl rfl rfl) rfl rfl ?_
      refine el_pass (wanted_f rfl rfl rfl rfl) rfl rfl ?_
      refine el_val (v := (Value.bool true)) (wanted_n rfl) rfl rfl (run_pick_t rfl rfl rfl) ?_
      refine el_val (v := (Value.bool true)) (wanted_n rfl) rfl rfl (run_pev (v := (Value.bool true)) rfl) ?_
      refine el_nil ?_
      obtain rfl := Option.some.inj h
      exact ⟨f, (HP.le_refl _), ⟨rfl, rfl, trivial⟩, hw⟩
    · replace h := ifb_f hb40 h
      refine el_val (v := (Value.pointer (some ⟨b25, 0, none⟩))) (wanted_y rfl rfl rfl hb40) rfl rfl (run_fieldAddr tf34_0 (o := 0) rfl) ?_
      refine el_val (v := (Value.int .i64 p1.From)) (wanted_y rfl rfl rfl hb40) rfl rfl (run_load1 (ad := ⟨b25, 0, none⟩) ta3 rfl (wd_cell 0 hw rfl rfl)) ?_
      refine el_val (v := (Value.int .i64 p2)) (wanted_y rfl rfl rfl hb40) rfl rfl (run_pev (v := (Value.int .i64 p2)) rfl) ?_
      refine el_val (v := (Value.bool (decide (p1.From ≥ p2)))) (wanted_y rfl rfl rfl hb40) rfl rfl (run_pev (v := (Value.bool (decide (p1.From ≥ p2)))) rfl) ?_
      refine el_val (v := (Value.bool (decide (p1.From ≥ p2)))) (wanted_n rfl) rfl rfl (run_pick_f rfl hb40 rfl) ?_
      refine el_val (v := (Value.bool (decide (p1.From ≥ p2)))) (wanted_n rfl) rfl rfl (run_pev (v := (Value.bool (decide (p1.From ≥ p2)))) rfl) ?_
      rcases Bool.eq_false_or_eq_true (decide (p1.From ≥ p2)) with hb41 | hb41
      · replace h := ifb_t hb41 h
        refine el_pass (wanted_f rfl rfl rfl hb41) rfl rfl ?_
        refine el_pass (wanted_f rfl rfl rfl hb41) rfl rfl ?_
        refine el_pass (wanted_f rfl rfl rfl hb41) rfl rfl ?_
        refine el_val (v := (Value.bool true)) (wanted_n rfl) rfl rfl (run_pick_t rfl hb41 rfl) ?_
        refine el_val (v := (Value.bool true)) (wanted_n rfl) rfl rfl (run_pev (v := (Value.bool true)) rfl) ?_
        refine el_pass (wanted_f rfl rfl rfl rfl) rfl rfl ?_
        refine el_pass (wanted_f rfl rfl rfl rfl) rfl rfl ?_
        refine el_pass (wanted_f rfl rfl rfl rfl) rfl rfl ?_
        refine el_pass (wanted_f rfl rfl rfl rfl) rfl rfl ?_
        refine el_val (v := (Value.bool true)) (wanted_n rfl) rfl rfl (run_pick_t rfl rfl rfl) ?_
        refine el_val (v := (Value.bool true)) (wanted_n rfl) rfl rfl (run_pev (v := (Value.bool true)) rfl) ?_
        refine el_nil ?_
        obtain rfl := Option.some.inj h
        exact ⟨f, (HP.le_refl _), ⟨rfl, rfl, trivial⟩, hw⟩
      · replace h := ifb_f hb41 h
        refine el_val (v := (Value.pointer (some ⟨b25, 1, none⟩))) (wanted_y rfl rfl rfl hb41) rfl rfl (run_fieldAddr tf34_1 (o := 0) rfl) ?_
        refine el_val (v := (Value.int .i64 p1.To)) (wanted_y rfl rfl rfl hb41) rfl rfl (run_load1 (ad := ⟨b25, 1, none⟩) ta3 rfl (wd_cell 0 hw rfl rfl)) ?_
        refine el_val (v := (Value.bool (decide (p1.To < 0)))) (wanted_y rfl rfl rfl hb41) rfl rfl (run_pev (v := (Value.bool (decide (p1.To < 0)))) rfl) ?_
        refine el_val (v := (Value.bool (decide (p1.To < 0)))) (wanted_n rfl) rfl rfl (run_pick_f rfl hb41 rfl) ?_
        refine el_val (v := (Value.bool (decide (p1.To < 0)))) (wanted_n rfl) rfl rfl (run_pev (v := (Value.bool (decide (p1.To < 0)))) rfl) ?_
        rcases Bool.eq_false_or_eq_true (decide (p1.To < 0)) with hb42 | hb42
        · replace h := ifb_t hb42 h
          refine el_pass (wanted_f rfl rfl rfl hb42) rfl rfl ?_
          refine el_pass (wanted_f rfl rfl rfl hb42) rfl rfl ?_
          refine el_pass (wanted_f rfl rfl rfl hb42) rfl rfl ?_
          refine el_pass (wanted_f rfl rfl rfl hb42) rfl rfl ?_
          refine el_val (v := (Value.bool true)) (wanted_n rfl) rfl rfl (run_pick_t rfl hb42 rfl) ?_
          refine el_val (v := (Value.bool true)) (wanted_n rfl) rfl rfl (run_pev (v := (Value.bool true)) rfl) ?_
          refine el_nil ?_
          obtain rfl := Option.some.inj h
          exact ⟨f, (HP.le_refl _), ⟨rfl, rfl, trivial⟩, hw⟩
        · replace h := ifb_f hb42 h
          refine el_val (v := (Value.pointer (some ⟨b25, 1, none⟩))) (wanted_y rfl rfl rfl hb42) rfl rfl (run_fieldAddr tf34_1 (o := 0) rfl) ?_
          refine el_val (v := (Value.int .i64 p1.To)) (wanted_y rfl rfl rfl hb42) rfl rfl (run_load1 (ad := ⟨b25, 1, none⟩) ta3 rfl (wd_cell 0 hw rfl rfl)) ?_
          refine el_val (v := (Value.int .i64 p2)) (wanted_y rfl rfl rfl hb42) rfl rfl (run_pev (v := (Value.int .i64 p2)) rfl) ?_
          refine el_val (v := (Value.bool (decide (p1.To ≥ p2)))) (wanted_y rfl rfl rfl hb42) rfl rfl (run_pev (v := (Value.bool (decide (p1.To ≥ p2)))) rfl) ?_
          refine el_val (v := (Value.bool (decide (p1.To ≥ p2)))) (wanted_n rfl) rfl rfl (run_pick_f rfl hb42 rfl) ?_
          refine el_val (v := (Value.bool (decide (p1.To ≥ p2)))) (wanted_n rfl) rfl rfl (run_pev (v := (Value.bool (decide (p1.To ≥ p2)))) rfl) ?_
          refine el_nil ?_
          obtain rfl := Option.some.inj h
          exact ⟨f, (HP.le_refl _), ⟨rfl, rfl, trivial⟩, hw⟩
  · rintro ρ43 w44 ⟨f36, hle37, hl38, hw⟩
    first | refine ewp_live hl38 fun ρ45 => ?_ | rw [← hl38.eq]
    refine ewp_cond s35 rfl (fun hb46 => ?_) (fun hb46 => ?_)
    · replace h := ifb_t hb46 h
      refine ewp_seq ?_
      refine ewp_region ?_
      refine el_val (v := (Value.int .i64 3)) (wanted_n rfl) rfl rfl (run_pev (v := (Value.int .i64 3)) rfl) ?_
      refine el_nil ?_
      refine ewp_ret ?_
      replace hw := hw.drop_0
      obtain rfl := Option.some.inj h
      exact ⟨_, res1 rfl, f36, hle37, rfl, hw⟩
    · replace h := ifb_f hb46 h
      refine ewp_seq ?_
      refine ewp_region ?_
      refine el_val (v := (Value.pointer (some ⟨b25, 0, none⟩))) (wanted_n rfl) rfl rfl (run_fieldAddr tf34_0 (o := 0) rfl) ?_
      refine el_val (v := (Value.int .i64 p1.From)) (wanted_n rfl) rfl rfl (run_load1 (ad := ⟨b25, 0, none⟩) ta3 rfl (wd_cell 0 hw rfl rfl)) ?_
      refine el_val (v := (Value.pointer (some ⟨b25, 1, none⟩))) (wanted_n rfl) rfl rfl (run_fieldAddr tf34_1 (o := 0) rfl) ?_
      refine el_val (v := (Value.int .i64 p1.To)) (wanted_n rfl) rfl rfl (run_load1 (ad := ⟨b25, 1, none⟩) ta3 rfl (wd_cell 0 hw rfl rfl)) ?_
      refine el_val (v := (Value.bool (p1.From == p1.To))) (wanted_n rfl) rfl rfl (run_pev (v := (Value.bool (p1.From == p1.To))) rfl) ?_
      refine el_val (v := (Value.bool (p1.From == p1.To))) (wanted_n rfl) rfl rfl (run_pev (v := (Value.bool (p1.From == p1.To))) rfl) ?_
      refine el_nil ?_
      refine ewp_cond (p1.From == p1.To) rfl (fun hb47 => ?_) (fun hb47 => ?_)
      · replace h := ifb_t hb47 h
        refine ewp_seq ?_
        refine ewp_region ?_
        refine el_val (v := (Value.int .i64 1)) (wanted_n rfl) rfl rfl (run_pev (v := (Value.int .i64 1)) rfl) ?_
        refine el_nil ?_
        refine ewp_ret ?_
        replace hw := hw.drop_0
        obtain rfl := Option.some.inj h
        exact ⟨_, res1 rfl, f36, hle37, rfl, hw⟩
      · replace h := ifb_f hb47 h
        refine ewp_seq ?_
        refine ewp_region ?_
        refine el_val (v := (Value.pointer (some ⟨b25, 2, none⟩))) (wanted_n rfl) rfl rfl (run_fieldAddr tf34_2 (o := 0) rfl) ?_
        refine el_val (v := (Value.int .i64 p1.Len)) (wanted_n rfl) rfl rfl (run_load1 (ad := ⟨b25, 2, none⟩) ta3 rfl (wd_cell 0 hw rfl rfl)) ?_
        obtain ⟨x48, hx49, h⟩ := bind_some h
        refine el_call (wanted_n rfl) rfl rfl (run_call (vals := (List.toArray [(Value.int .i64 p1.Len), (Value.int .i64 (-28800)), (Value.int .i64 28800)])) rfl cl48 rfl) (fishref2_within.calls hw  hx49) ?_
        rintro _ w52 ⟨f50, hle51, rfl, hw⟩
        refine el_val (v := (Value.bool (!x48))) (wanted_n rfl) rfl rfl (run_pev (v := (Value.bool (!x48))) rfl) ?_
        refine el_val (v := (Value.bool (!x48))) (wanted_n rfl) rfl rfl (run_pev (v := (Value.bool (!x48))) rfl) ?_
        refine el_nil ?_
        refine ewp_cond (!x48) rfl (fun hb53 => ?_) (fun hb53 => ?_)
        · replace h := ifb_t hb53 h
          refine ewp_seq ?_
          refine ewp_region ?_
          refine el_val (v := (Value.int .i64 2)) (wanted_n rfl) rfl rfl (run_pev (v := (Value.int .i64 2)) rfl) ?_
          refine el_nil ?_
          refine ewp_ret ?_
          replace hw := hw.drop_0
          obtain rfl := Option.some.inj h
          exact ⟨_, res1 rfl, f50, (HP.le_trans hle37 hle51), rfl, hw⟩
        · replace h := ifb_f hb53 h
          refine ewp_skip ?_
          refine ewp_seq ?_
          refine ewp_region ?_
          refine el_val (v := (Value.int .i64 0)) (wanted_n rfl) rfl rfl (run_pev (v := (Value.int .i64 0)) rfl) ?_
          refine el_nil ?_
          refine ewp_ret ?_
          replace hw := hw.drop_0
          obtain rfl := Option.some.inj h
          exact ⟨_, res1 rfl, f50, (HP.le_trans hle37 hle51), rfl, hw⟩
end Hk
