/- Functions of the program as plain functions, with proofs that each call returns what its plain function gives. Printed by a tool. -/
import Derived.Test.YtcidamhhffgipaaMLc
set_option linter.unusedVariables false
set_option linter.unusedSimpArgs false
set_option maxRecDepth 20000
set_option maxHeartbeats 2000000
namespace Hk
open Go Go.Proofs
def fishref2_GraphFault_b13 (p1 : S_mend_Graph) (i595 : Nat) (x596 : S_mend_Arc) (s571 : Unit) : Option (Ctl (Unit) (Ctl (Unit) (Int))) :=
  ((fishref2_arcFault x596 (p1.Ready.length : Int)).bind fun (x611 : Int) => (ifb (x611 != 0) (some (.out (.out x611))) (some (.go ()))))
def fishref2_GraphFault_b12 (p1 : S_mend_Graph) (i554 : Nat) (x555 : List S_mend_Arc) (s513 : Unit) : Option (Ctl (Unit) (Ctl (Unit) (Int))) :=
  (ifb (decide ((x555.length : Int) > 4)) (some (.out (.out 4))) ((forC (fishref2_GraphFault_b13 p1) x555 ()).bind fun c593 => Ctl.on c593 (fun s571 => (some (.go ()))) (fun x626 => (some (.out (.out x626))))))
def fishref2_GraphFault_b10 (p1 : S_mend_Graph) (i492 : Nat) (x493 : S_mend_Choice) (s430 : Unit) : Option (Ctl (Unit) (Ctl (Unit) (Int))) :=
  (ifb (decide ((x493.Ways.length : Int) > 3)) (some (.out (.out 4))) ((forC (fishref2_GraphFault_b12 p1) x493.Ways ()).bind fun c552 => Ctl.on c552 (fun s513 => (some (.go ()))) (fun x637 => (some (.out (.out x637))))))
def fishref2_GraphFault_b7 (p1 : S_mend_Graph) (i401 : Nat) (x402 : S_mend_Arc) (s377 : Unit) : Option (Ctl (Unit) (Ctl (Unit) (Int))) :=
  ((fishref2_arcFault x402 (p1.Ready.length : Int)).bind fun (x417 : Int) => (ifb (x417 != 0) (some (.out (.out x417))) (some (.go ()))))
def fishref2_GraphFault_b6 (p1 : S_mend_Graph) (i273 : Nat) (x274 : Int) (s217 : Unit) : Option (Ctl (Unit) (Ctl (Unit) (Int))) :=
  (((fishref2_within x274 0 28800).bind fun (x333 : Bool) => (ifb (!x333) (some true) ((idx p1.Last (i273 : Int)).bind fun (x339 : Int) => ((fishref2_within x339 (-1) 28800).bind fun (x347 : Bool) => (ifb (!x347) (some true) ((idx p1.Due (i273 : Int)).bind fun (x353 : Int) => ((fishref2_within x353 (-1) 28800).bind fun (x361 : Bool) => (some (!x361))))))))).bind fun (s322 : Bool) => (ifb s322 (some (.out (.out 2))) (some (.go ()))))
def fishref2_GraphFault (p1 : S_mend_Graph) : Option (Int) :=
  ((ifb (decide ((p1.Ready.length : Int) > 24)) (some true) (ifb (decide ((p1.Arcs.length : Int) > 250)) (some true) (some (decide ((p1.Choices.length : Int) > 300))))).bind fun (s191 : Bool) => (ifb s191 (some 4) ((ifb ((p1.Last.length : Int) != (p1.Ready.length : Int)) (some true) (some ((p1.Due.length : Int) != (p1.Ready.length : Int)))).bind fun (s207 : Bool) => (ifb s207 (some 1) ((forC (fishref2_GraphFault_b6 p1) p1.Ready ()).bind fun c271 => Ctl.on c271 (fun s217 => ((forC (fishref2_GraphFault_b7 p1) p1.Arcs ()).bind fun c399 => Ctl.on c399 (fun s377 => ((forC (fishref2_GraphFault_b10 p1) p1.Choices ()).bind fun c490 => Ctl.on c490 (fun s430 => (some 0)) (fun x648 => (some x648)))) (fun x652 => (some x652)))) (fun x656 => (some x656)))))))
def fishref2_GraphFault.R (G : World) (f : HP) (L : List HProp) (A2 : Option Addr) (n3 : Nat) (c4 : Nat) (A6 : Option Addr) (n7 : Nat) (c8 : Nat) (A10 : Option Addr) (n11 : Nat) (c12 : Nat) (A14 : Option Addr) (n15 : Nat) (c16 : Nat) (A18 : Option Addr) (n19 : Nat) (c20 : Nat) (p1 : S_mend_Graph) (r : Int) : Value → World → Prop := fun v' w' =>
  ∃ (f' : HP), HP.le f f' ∧ v' = (Value.int .i64 r) ∧ Wd G w' f' (L)
theorem fishref2_GraphFault.calls {G w : World} {f : HP} {L : List HProp} {A2 : Option Addr} {n3 : Nat} {c4 : Nat} {A6 : Option Addr} {n7 : Nat} {c8 : Nat} {A10 : Option Addr} {n11 : Nat} {c12 : Nat} {A14 : Option Addr} {n15 : Nat} {c16 : Nat} {A18 : Option Addr} {n19 : Nat} {c20 : Nat} {p1 : S_mend_Graph} (hw : Wd G w f (L)) (hs5 : SlF f (fInt .i64) A2 n3 c4 p1.Ready) (hs9 : SlF f (fInt .i64) A6 n7 c8 p1.Last) (hs13 : SlF f (fInt .i64) A10 n11 c12 p1.Due) (hs17 : SlF f fS_mend_Arc A14 n15 c16 p1.Arcs) (hs21 : SlF f fS_mend_Choice A18 n19 c20 p1.Choices) {r : Int} (h : fishref2_GraphFault p1 = some r) :
    Calls Try.prog 32 #[(Value.agg #[(Value.slice A2 n3 c4), (Value.slice A6 n7 c8), (Value.slice A10 n11 c12), (Value.slice A14 n15 c16), (Value.slice A18 n19 c20)])] w (Returns (fishref2_GraphFault.R G f L A2 n3 c4 A6 n7 c8 A10 n11 c12 A14 n15 c16 A18 n19 c20 p1 r)) := by
  unfold fishref2_GraphFault at h
  refine ecalls 124 Try.func32 rfl rfl ?_
  refine ewp_seq ?_
  refine ewp_region ?_
  refine el_exv (wanted_n rfl) rfl rfl (run_boxE (cs := [(Value.slice A2 n3 c4), (Value.slice A6 n7 c8), (Value.slice A10 n11 c12), (Value.slice A14 n15 c16), (Value.slice A18 n19 c20)]) rfl rfl hw) ?_
  rintro w184 _ ⟨b182, rfl, hw⟩
  refine el_val (v := (Value.int .i64 0)) (wanted_n rfl) rfl rfl (run_pev (v := (Value.int .i64 0)) rfl) ?_
  refine el_nil ?_
  refine ewp_seq ?_
  refine ewp_region ?_
  refine el_val (v := (Value.pointer (some ⟨b182, 0, none⟩))) (wanted_n rfl) rfl rfl (run_fieldAddr tf26_0 (o := 0) rfl) ?_
  refine el_val (v := (Value.slice A2 n3 c4)) (wanted_n rfl) rfl rfl (run_load1 (ad := ⟨b182, 0, none⟩) ta22 rfl (wd_cell 0 hw rfl rfl)) ?_
  refine el_val (v := (Value.int .i64 (p1.Ready.length : Int))) (wanted_n rfl) rfl rfl (run_lenS te22 rfl hs5.len) ?_
  refine el_val (v := (Value.int .i64 (p1.Ready.length : Int))) (wanted_n rfl) rfl rfl (run_pev (v := (Value.int .i64 (p1.Ready.length : Int))) rfl) ?_
  refine el_nil ?_
  refine ewp_seq ?_
  refine ewp_seq ?_
  obtain ⟨s191, hc195, h⟩ := bind_some h
  refine ewp_N (fun ρ' w' => ∃ (f192 : HP), HP.le f f192 ∧ Live ρ' [(1, (Value.pointer (some ⟨b182, 0, none⟩))), (3, (Value.int .i64 (p1.Ready.length : Int))), (31, (Value.bool s191))] ∧ Wd G w' f192 (Blk b182 (.cells (List.toArray [(Value.slice A2 n3 c4), (Value.slice A6 n7 c8), (Value.slice A10 n11 c12), (Value.slice A14 n15 c16), (Value.slice A18 n19 c20)]) 26 (0, 0)) :: L)) ?_ ?_
  · replace h := hc195
    refine ewp_region ?_
    refine el_val (v := (Value.int .i64 (p1.Ready.length : Int))) (wanted_n rfl) rfl rfl (run_pev (v := (Value.int .i64 (p1.Ready.length : Int))) rfl) ?_
    refine el_val (v := (Value.bool (decide ((p1.Ready.length : Int) > 24)))) (wanted_n rfl) rfl rfl (run_pev (v := (Value.bool (decide ((p1.Ready.length : Int) > 24)))) rfl) ?_
    refine el_val (v := (Value.bool (decide ((p1.Ready.length : Int) > 24)))) (wanted_n rfl) rfl rfl (run_pev (v := (Value.bool (decide ((p1.Ready.length : Int) > 24)))) rfl) ?_
    rcases Bool.eq_false_or_eq_true (decide ((p1.Ready.length : Int) > 24)) with hb196 | hb196
    · replace h := ifb_t hb196 h
      refine el_pass (wanted_f rfl rfl rfl hb196) rfl rfl ?_
      refine el_pass (wanted_f rfl rfl rfl hb196) rfl rfl ?_
      refine el_pass (wanted_f rfl rfl rfl hb196) rfl rfl ?_
      refine el_pass (wanted_f rfl rfl rfl hb196) rfl rfl ?_
      refine el_val (v := (Value.bool true)) (wanted_n rfl) rfl rfl (run_pick_t rfl hb196 rfl) ?_
      refine el_val (v := (Value.bool true)) (wanted_n rfl) rfl rfl (run_pev (v := (Value.bool true)) rfl) ?_
      refine el_pass (wanted_f rfl rfl rfl rfl) rfl rfl ?_
      refine el_pass (wanted_f rfl rfl rfl rfl) rfl rfl ?_
      refine el_pass (wanted_f rfl rfl rfl rfl) rfl rfl ?_
      refine el_pass (wanted_f rfl rfl rfl rfl) rfl rfl ?_
      refine el_val (v := (Value.bool true)) (wanted_n rfl) rfl rfl (run_pick_t rfl rfl rfl) ?_
      refine el_nil ?_
      obtain rfl := Option.some.inj h
      exact ⟨f, (HP.le_refl _), ⟨rfl, rfl, rfl, trivial⟩, hw⟩
    · replace h := ifb_f hb196 h
      refine el_val (v := (Value.pointer (some ⟨b182, 3, none⟩))) (wanted_y rfl rfl rfl hb196) rfl rfl (run_fieldAddr tf26_3 (o := 0) rfl) ?_
      refine el_val (v := (Value.slice A14 n15 c16)) (wanted_y rfl rfl rfl hb196) rfl rfl (run_load1 (ad := ⟨b182, 3, none⟩) ta23 rfl (wd_cell 0 hw rfl rfl)) ?_
      refine el_val (v := (Value.int .i64 (p1.Arcs.length : Int))) (wanted_y rfl rfl rfl hb196) rfl rfl (run_lenS te23 rfl hs17.len) ?_
      refine el_val (v := (Value.bool (decide ((p1.Arcs.length : Int) > 250)))) (wanted_y rfl rfl rfl hb196) rfl rfl (run_pev (v := (Value.bool (decide ((p1.Arcs.length : Int) > 250)))) rfl) ?_
      refine el_val (v := (Value.bool (decide ((p1.Arcs.length : Int) > 250)))) (wanted_n rfl) rfl rfl (run_pick_f rfl hb196 rfl) ?_
      refine el_val (v := (Value.bool (decide ((p1.Arcs.length : Int) > 250)))) (wanted_n rfl) rfl rfl (run_pev (v := (Value.bool (decide ((p1.Arcs.length : Int) > 250)))) rfl) ?_
      rcases Bool.eq_false_or_eq_true (decide ((p1.Arcs.length : Int) > 250)) with hb197 | hb197
      · replace h := ifb_t hb197 h
        refine el_pass (wanted_f rfl rfl rfl hb197) rfl rfl ?_
        refine el_pass (wanted_f rfl rfl rfl hb197) rfl rfl ?_
        refine el_pass (wanted_f rfl rfl rfl hb197) rfl rfl ?_
        refine el_pass (wanted_f rfl rfl rfl hb197) rfl rfl ?_
        refine el_val (v := (Value.bool true)) (wanted_n rfl) rfl rfl (run_pick_t rfl hb197 rfl) ?_
        refine el_nil ?_
        obtain rfl := Option.some.inj h
        exact ⟨f, (HP.le_refl _), ⟨rfl, rfl, rfl, trivial⟩, hw⟩
      · replace h := ifb_f hb197 h
        refine el_val (v := (Value.pointer (some ⟨b182, 4, none⟩))) (wanted_y rfl rfl rfl hb197) rfl rfl (run_fieldAddr tf26_4 (o := 0) rfl) ?_
        refine el_val (v := (Value.slice A18 n19 c20)) (wanted_y rfl rfl rfl hb197) rfl rfl (run_load1 (ad := ⟨b182, 4, none⟩) ta24 rfl (wd_cell 0 hw rfl rfl)) ?_
        refine el_val (v := (Value.int .i64 (p1.Choices.length : Int))) (wanted_y rfl rfl rfl hb197) rfl rfl (run_lenS te24 rfl hs21.len) ?_
        refine el_val (v := (Value.bool (decide ((p1.Choices.length : Int) > 300)))) (wanted_y rfl rfl rfl hb197) rfl rfl (run_pev (v := (Value.bool (decide ((p1.Choices.length : Int) > 300)))) rfl) ?_
        refine el_val (v := (Value.bool (decide ((p1.Choices.length : Int) > 300)))) (wanted_n rfl) rfl rfl (run_pick_f rfl hb197 rfl) ?_
        refine el_nil ?_
        obtain rfl := Option.some.inj h
        exact ⟨f, (HP.le_refl _), ⟨rfl, rfl, rfl, trivial⟩, hw⟩
  · rintro ρ198 w199 ⟨f192, hle193, hl194, hw⟩
    first | refine ewp_live hl194 fun ρ200 => ?_ | rw [← hl194.eq]
    replace hs5 := hs5.mono hle193
    replace hs9 := hs9.mono hle193
    replace hs13 := hs13.mono hle193
    replace hs17 := hs17.mono hle193
    replace hs21 := hs21.mono hle193
    refine ewp_cond s191 rfl (fun hb201 => ?_) (fun hb201 => ?_)
    · replace h := ifb_t hb201 h
      refine ewp_seq ?_
      refine ewp_region ?_
      refine el_val (v := (Value.int .i64 4)) (wanted_n rfl) rfl rfl (run_pev (v := (Value.int .i64 4)) rfl) ?_
      refine el_nil ?_
      refine ewp_ret ?_
      replace hw := hw.drop_0
      obtain rfl := Option.some.inj h
      exact ⟨_, res1 rfl, f192, hle193, rfl, hw⟩
    · replace h := ifb_f hb201 h
      refine ewp_skip ?_
      refine ewp_seq ?_
      refine ewp_seq ?_
      obtain ⟨s207, hc211, h⟩ := bind_some h
      refine ewp_N (fun ρ' w' => ∃ (f208 : HP), HP.le f192 f208 ∧ Live ρ' [(1, (Value.pointer (some ⟨b182, 0, none⟩))), (3, (Value.int .i64 (p1.Ready.length : Int))), (43, (Value.bool s207))] ∧ Wd G w' f208 (Blk b182 (.cells (List.toArray [(Value.slice A2 n3 c4), (Value.slice A6 n7 c8), (Value.slice A10 n11 c12), (Value.slice A14 n15 c16), (Value.slice A18 n19 c20)]) 26 (0, 0)) :: L)) ?_ ?_
      · replace h := hc211
        refine ewp_region ?_
        refine el_val (v := (Value.pointer (some ⟨b182, 1, none⟩))) (wanted_n rfl) rfl rfl (run_fieldAddr tf26_1 (o := 0) rfl) ?_
        refine el_val (v := (Value.slice A6 n7 c8)) (wanted_n rfl) rfl rfl (run_load1 (ad := ⟨b182, 1, none⟩) ta22 rfl (wd_cell 0 hw rfl rfl)) ?_
        refine el_val (v := (Value.int .i64 (p1.Last.length : Int))) (wanted_n rfl) rfl rfl (run_lenS te22 rfl hs9.len) ?_
        refine el_val (v := (Value.int .i64 (p1.Ready.length : Int))) (wanted_n rfl) rfl rfl (run_pev (v := (Value.int .i64 (p1.Ready.length : Int))) rfl) ?_
        refine el_val (v := (Value.bool ((p1.Last.length : Int) != (p1.Ready.length : Int)))) (wanted_n rfl) rfl rfl (run_pev (v := (Value.bool ((p1.Last.length : Int) != (p1.Ready.length : Int)))) rfl) ?_
        refine el_val (v := (Value.bool ((p1.Last.length : Int) != (p1.Ready.length : Int)))) (wanted_n rfl) rfl rfl (run_pev (v := (Value.bool ((p1.Last.length : Int) != (p1.Ready.length : Int)))) rfl) ?_
        rcases Bool.eq_false_or_eq_true ((p1.Last.length : Int) != (p1.Ready.length : Int)) with hb212 | hb212
        · replace h := ifb_t hb212 h
          refine el_pass (wanted_f rfl rfl rfl hb212) rfl rfl ?_
          refine el_pass (wanted_f rfl rfl rfl hb212) rfl rfl ?_
          refine el_pass (wanted_f rfl rfl rfl hb212) rfl rfl ?_
          refine el_pass (wanted_f rfl rfl rfl hb212) rfl rfl ?_
          refine el_pass (wanted_f rfl rfl rfl hb212) rfl rfl ?_
          refine el_val (v := (Value.bool true)) (wanted_n rfl) rfl rfl (run_pick_t rfl hb212 rfl) ?_
          refine el_nil ?_
          obtain rfl := Option.some.inj h
          exact ⟨f192, (HP.le_refl _), ⟨rfl, rfl, rfl, trivial⟩, hw⟩
        · replace h := ifb_f hb212 h
          refine el_val (v := (Value.pointer (some ⟨b182, 2, none⟩))) (wanted_y rfl rfl rfl hb212) rfl rfl (run_fieldAddr tf26_2 (o := 0) rfl) ?_
          refine el_val (v := (Value.slice A10 n11 c12)) (wanted_y rfl rfl rfl hb212) rfl rfl (run_load1 (ad := ⟨b182, 2, none⟩) ta22 rfl (wd_cell 0 hw rfl rfl)) ?_
          refine el_val (v := (Value.int .i64 (p1.Due.length : Int))) (wanted_y rfl rfl rfl hb212) rfl rfl (run_lenS te22 rfl hs13.len) ?_
          refine el_val (v := (Value.int .i64 (p1.Ready.length : Int))) (wanted_y rfl rfl rfl hb212) rfl rfl (run_pev (v := (Value.int .i64 (p1.Ready.length : Int))) rfl) ?_
          refine el_val (v := (Value.bool ((p1.Due.length : Int) != (p1.Ready.length : Int)))) (wanted_y rfl rfl rfl hb212) rfl rfl (run_pev (v := (Value.bool ((p1.Due.length : Int) != (p1.Ready.length : Int)))) rfl) ?_
          refine el_val (v := (Value.bool ((p1.Due.length : Int) != (p1.Ready.length : Int)))) (wanted_n rfl) rfl rfl (run_pick_f rfl hb212 rfl) ?_
          refine el_nil ?_
          obtain rfl := Option.some.inj h
          exact ⟨f192, (HP.le_refl _), ⟨rfl, rfl, rfl, trivial⟩, hw⟩
      · rintro ρ213 w214 ⟨f208, hle209, hl210, hw⟩
        first | refine ewp_live hl210 fun ρ215 => ?_ | rw [← hl210.eq]
        replace hs5 := hs5.mono hle209
        replace hs9 := hs9.mono hle209
        replace hs13 := hs13.mono hle209
        replace hs17 := hs17.mono hle209
        replace hs21 := hs21.mono hle209
        refine ewp_cond s207 rfl (fun hb216 => ?_) (fun hb216 => ?_)
        · replace h := ifb_t hb216 h
          refine ewp_seq ?_
          refine ewp_region ?_
          refine el_val (v := (Value.int .i64 1)) (wanted_n rfl) rfl rfl (run_pev (v := (Value.int .i64 1)) rfl) ?_
          refine el_nil ?_
          refine ewp_ret ?_
          replace hw := hw.drop_0
          obtain rfl := Option.some.inj h
          exact ⟨_, res1 rfl, f208, (HP.le_trans hle193 hle209), rfl, hw⟩
        · replace h := ifb_f hb216 h
          refine ewp_skip ?_
          refine ewp_seq ?_
          refine ewp_seq ?_
          refine ewp_region ?_
          refine el_val (v := (Value.int .i64 (p1.Ready.length : Int))) (wanted_n rfl) rfl rfl (run_pev (v := (Value.int .i64 (p1.Ready.length : Int))) rfl) ?_
          refine el_val (v := (Value.int .i64 0)) (wanted_n rfl) rfl rfl (run_pev (v := (Value.int .i64 0)) rfl) ?_
          refine el_nil ?_
          obtain ⟨c271, hc272, h⟩ := bind_some h
          refine ewp_M (fun ρ' w' => ∃ s217, c271 = .go s217 ∧ ∃ (f218 : HP), HP.le f208 f218 ∧ Live ρ' [(1, (Value.pointer (some ⟨b182, 0, none⟩))), (3, (Value.int .i64 (p1.Ready.length : Int)))] ∧ Wd G w' f218 (Blk b182 (.cells (List.toArray [(Value.slice A2 n3 c4), (Value.slice A6 n7 c8), (Value.slice A10 n11 c12), (Value.slice A14 n15 c16), (Value.slice A18 n19 c20)]) 26 (0, 0)) :: L)) (fun ρ' w' => ∃ x_, c271 = .out x_ ∧ (x_ = r → RetPost Try.prog Try.f32 (fishref2_GraphFault.R G f L A2 n3 c4 A6 n7 c8 A10 n11 c12 A14 n15 c16 A18 n19 c20 p1 r) .ret ρ' w')) noX ?_ ?_ ?_ ?_
          · refine ewp_block ?_
            refine ewp_forC (fun (i273 : Nat) (s217 : Unit) ρ' w' => ∃ (f218 : HP), HP.le f208 f218 ∧ Live ρ' [(1, (Value.pointer (some ⟨b182, 0, none⟩))), (3, (Value.int .i64 (p1.Ready.length : Int))), (44, (Value.int .i64 (p1.Ready.length : Int))), (45, (Value.int .i64 (i273 : Int)))] ∧ Wd G w' f218 (Blk b182 (.cells (List.toArray [(Value.slice A2 n3 c4), (Value.slice A6 n7 c8), (Value.slice A10 n11 c12), (Value.slice A14 n15 c16), (Value.slice A18 n19 c20)]) 26 (0, 0)) :: L)) hc272 ⟨f208, (HP.le_refl _), ⟨rfl, rfl, rfl, rfl, trivial⟩, hw⟩ ?_ ?_
            · rintro i273 x274 s217 ct277 ρ275 w276 hx h ⟨f218, hle219, hl220, hw⟩
              unfold fishref2_GraphFault_b6 at h
              first | refine ewp_live hl220 fun ρ278 => ?_ | rw [← hl220.eq]
              replace hs5 := hs5.mono hle219
              replace hs9 := hs9.mono hle219
              replace hs13 := hs13.mono hle219
              replace hs17 := hs17.mono hle219
              replace hs21 := hs21.mono hle219
              refine ewp_seq ?_
              refine ewp_region ?_
              refine el_val (v := (Value.bool (decide ((i273 : Int) < (p1.Ready.length : Int))))) (wanted_n rfl) rfl rfl (run_pev (v := (Value.bool (decide ((i273 : Int) < (p1.Ready.length : Int))))) rfl) ?_
              refine el_nil ?_
              refine ewp_seq ?_
              refine ewp_cond_t rfl (lt_len hx) ?_
              refine ewp_skip ?_
              refine ewp_seq ?_
              refine ewp_block ?_
              refine ewp_seq ?_
              refine ewp_region ?_
              refine el_val (v := (Value.int .i64 (i273 : Int))) (wanted_n rfl) rfl rfl (run_pev (v := (Value.int .i64 (i273 : Int))) rfl) ?_
              refine el_val (v := (Value.int .i64 (i273 : Int))) (wanted_n rfl) rfl rfl (run_pev (v := (Value.int .i64 (i273 : Int))) rfl) ?_
              refine el_nil ?_
              refine ewp_seq ?_
              obtain ⟨s322, hc326, h⟩ := bind_some h
              refine ewp_N (fun ρ' w' => ∃ (f323 : HP), HP.le f218 f323 ∧ Live ρ' [(1, (Value.pointer (some ⟨b182, 0, none⟩))), (3, (Value.int .i64 (p1.Ready.length : Int))), (44, (Value.int .i64 (p1.Ready.length : Int))), (45, (Value.int .i64 (i273 : Int))), (72, (Value.bool s322))] ∧ Wd G w' f323 (Blk b182 (.cells (List.toArray [(Value.slice A2 n3 c4), (Value.slice A6 n7 c8), (Value.slice A10 n11 c12), (Value.slice A14 n15 c16), (Value.slice A18 n19 c20)]) 26 (0, 0)) :: L)) ?_ ?_
              · replace h := hc326
                refine ewp_region ?_
                refine el_val (v := (Value.pointer (some ⟨b182, 0, none⟩))) (wanted_n rfl) rfl rfl (run_fieldAddr tf26_0 (o := 0) rfl) ?_
                refine el_val (v := (Value.slice A2 n3 c4)) (wanted_n rfl) rfl rfl (run_load1 (ad := ⟨b182, 0, none⟩) ta22 rfl (wd_cell 0 hw rfl rfl)) ?_
                refine el_val (v := (Value.int .i64 (i273 : Int))) (wanted_n rfl) rfl rfl (run_pev (v := (Value.int .i64 (i273 : Int))) rfl) ?_
                obtain ⟨b327, of328, es329, hA330, hc331, he332⟩ := sl_el hs5 (idx_nat hx)
                obtain rfl : es329 = _ := he332
                refine el_val (v := (Value.pointer (some (eAdr A2 (((i273 : Int)).toNat * 1))))) (wanted_n rfl) rfl rfl (run_idx te22 ts3 rfl hs5.len rfl (idx_nat hx) hA330) ?_
                refine el_val (v := (Value.int .i64 x274)) (wanted_n rfl) rfl rfl (run_load1 (ad := (eAdr A2 (((i273 : Int)).toNat * 1))) ta3 rfl (hw.fz (hc331 0 _ rfl))) ?_
                obtain ⟨x333, hx334, h⟩ := bind_some h
                refine el_call (wanted_n rfl) rfl rfl (run_call (vals := (List.toArray [(Value.int .i64 x274), (Value.int .i64 0), (Value.int .i64 28800)])) rfl cl48 rfl) (fishref2_within.calls hw  hx334) ?_
                rintro _ w337 ⟨f335, hle336, rfl, hw⟩
                replace hs5 := hs5.mono hle336
                replace hs9 := hs9.mono hle336
                replace hs13 := hs13.mono hle336
                replace hs17 := hs17.mono hle336
                replace hs21 := hs21.mono hle336
                replace hc331 := fun j v hv => hcell_le hle336 (hc331 j v hv)
                refine el_val (v := (Value.bool (!x333))) (wanted_n rfl) rfl rfl (run_pev (v := (Value.bool (!x333))) rfl) ?_
                refine el_val (v := (Value.bool (!x333))) (wanted_n rfl) rfl rfl (run_pev (v := (Value.bool (!x333))) rfl) ?_
                rcases Bool.eq_false_or_eq_true (!x333) with hb338 | hb338
                · replace h := ifb_t hb338 h
                  refine el_pass (wanted_f rfl rfl rfl hb338) rfl rfl ?_
                  refine el_pass (wanted_f rfl rfl rfl hb338) rfl rfl ?_
                  refine el_pass (wanted_f rfl rfl rfl hb338) rfl rfl ?_
                  refine el_pass (wanted_f rfl rfl rfl hb338) rfl rfl ?_
                  refine el_pass (wanted_f rfl rfl rfl hb338) rfl rfl ?_
                  refine el_pass (wanted_f rfl rfl rfl hb338) rfl rfl ?_
                  refine el_pass (wanted_f rfl rfl rfl hb338) rfl rfl ?_
                  refine el_val (v := (Value.bool true)) (wanted_n rfl) rfl rfl (run_pick_t rfl hb338 rfl) ?_
                  refine el_val (v := (Value.bool true)) (wanted_n rfl) rfl rfl (run_pev (v := (Value.bool true)) rfl) ?_
                  refine el_pass (wanted_f rfl rfl rfl rfl) rfl rfl ?_
                  refine el_pass (wanted_f rfl rfl rfl rfl) rfl rfl ?_
                  refine el_pass (wanted_f rfl rfl rfl rfl) rfl rfl ?_
                  refine el_pass (wanted_f rfl rfl rfl rfl) rfl rfl ?_
                  refine el_pass (wanted_f rfl rfl rfl rfl) rfl rfl ?_
                  refine el_pass (wanted_f rfl rfl rfl rfl) rfl rfl ?_
                  refine el_pass (wanted_f rfl rfl rfl rfl) rfl rfl ?_
                  refine el_val (v := (Value.bool true)) (wanted_n rfl) rfl rfl (run_pick_t rfl rfl rfl) ?_
                  refine el_nil ?_
                  obtain rfl := Option.some.inj h
                  exact ⟨f335, hle336, ⟨rfl, rfl, rfl, rfl, rfl, trivial⟩, hw⟩
                · replace h := ifb_f hb338 h
                  refine el_val (v := (Value.pointer (some ⟨b182, 1, none⟩))) (wanted_y rfl rfl rfl hb338) rfl rfl (run_fieldAddr tf26_1 (o := 0) rfl) ?_
                  refine el_val (v := (Value.slice A6 n7 c8)) (wanted_y rfl rfl rfl hb338) rfl rfl (run_load1 (ad := ⟨b182, 1, none⟩) ta22 rfl (wd_cell 0 hw rfl rfl)) ?_
                  refine el_val (v := (Value.int .i64 (i273 : Int))) (wanted_y rfl rfl rfl hb338) rfl rfl (run_pev (v := (Value.int .i64 (i273 : Int))) rfl) ?_
                  obtain ⟨x339, hx340, h⟩ := bind_some h
                  obtain ⟨b341, of342, es343, hA344, hc345, he346⟩ := sl_el hs9 hx340
                  obtain rfl : es343 = _ := he346
                  refine el_val (v := (Value.pointer (some (eAdr A6 (((i273 : Int)).toNat * 1))))) (wanted_y rfl rfl rfl hb338) rfl rfl (run_idx te22 ts3 rfl hs9.len rfl hx340 hA344) ?_
                  refine el_val (v := (Value.int .i64 x339)) (wanted_y rfl rfl rfl hb338) rfl rfl (run_load1 (ad := (eAdr A6 (((i273 : Int)).toNat * 1))) ta3 rfl (hw.fz (hc345 0 _ rfl))) ?_
                  obtain ⟨x347, hx348, h⟩ := bind_some h
                  refine el_call (wanted_y rfl rfl rfl hb338) rfl rfl (run_call (vals := (List.toArray [(Value.int .i64 x339), (Value.int .i64 (-1)), (Value.int .i64 28800)])) rfl cl48 rfl) (fishref2_within.calls hw  hx348) ?_
                  rintro _ w351 ⟨f349, hle350, rfl, hw⟩
                  replace hs5 := hs5.mono hle350
                  replace hs9 := hs9.mono hle350
                  replace hs13 := hs13.mono hle350
                  replace hs17 := hs17.mono hle350
                  replace hs21 := hs21.mono hle350
                  replace hc331 := fun j v hv => hcell_le hle350 (hc331 j v hv)
                  replace hc345 := fun j v hv => hcell_le hle350 (hc345 j v hv)
                  refine el_val (v := (Value.bool (!x347))) (wanted_y rfl rfl rfl hb338) rfl rfl (run_pev (v := (Value.bool (!x347))) rfl) ?_
                  refine el_val (v := (Value.bool (!x347))) (wanted_n rfl) rfl rfl (run_pick_f rfl hb338 rfl) ?_
                  refine el_val (v := (Value.bool (!x347))) (wanted_n rfl) rfl rfl (run_pev (v := (Value.bool (!x347))) rfl) ?_
                  rcases Bool.eq_false_or_eq_true (!x347) with hb352 | hb352
                  · replace h := ifb_t hb352 h
                    refine el_pass (wanted_f rfl rfl rfl hb352) rfl rfl ?_
                    refine el_pass (wanted_f rfl rfl rfl hb352) rfl rfl ?_
                    refine el_pass (wanted_f rfl rfl rfl hb352) rfl rfl ?_
                    refine el_pass (wanted_f rfl rfl rfl hb352) rfl rfl ?_
                    refine el_pass (wanted_f rfl rfl rfl hb352) rfl rfl ?_
                    refine el_pass (wanted_f rfl rfl rfl hb352) rfl rfl ?_
                    refine el_pass (wanted_f rfl rfl rfl hb352) rfl rfl ?_
                    refine el_val (v := (Value.bool true)) (wanted_n rfl) rfl rfl (run_pick_t rfl hb352 rfl) ?_
                    refine el_nil ?_
                    obtain rfl := Option.some.inj h
                    exact ⟨f349, (HP.le_trans hle336 hle350), ⟨rfl, rfl, rfl, rfl, rfl, trivial⟩, hw⟩
                  · replace h := ifb_f hb352 h
                    refine el_val (v := (Value.pointer (some ⟨b182, 2, none⟩))) (wanted_y rfl rfl rfl hb352) rfl rfl (run_fieldAddr tf26_2 (o := 0) rfl) ?_
                    refine el_val (v := (Value.slice A10 n11 c12)) (wanted_y rfl rfl rfl hb352) rfl rfl (run_load1 (ad := ⟨b182, 2, none⟩) ta22 rfl (wd_cell 0 hw rfl rfl)) ?_
                    refine el_val (v := (Value.int .i64 (i273 : Int))) (wanted_y rfl rfl rfl hb352) rfl rfl (run_pev (v := (Value.int .i64 (i273 : Int))) rfl) ?_
                    obtain ⟨x353, hx354, h⟩ := bind_some h
                    obtain ⟨b355, of356, es357, hA358, hc359, he360⟩ := sl_el hs13 hx354
                    obtain rfl : es357 = _ := he360
                    refine el_val (v := (Value.pointer (some (eAdr A10 (((i273 : Int)).toNat * 1))))) (wanted_y rfl rfl rfl hb352) rfl rfl (run_idx te22 ts3 rfl hs13.len rfl hx354 hA358) ?_
                    refine el_val (v := (Value.int .i64 x353)) (wanted_y rfl rfl rfl hb352) rfl rfl (run_load1 (ad := (eAdr A10 (((i273 : Int)).toNat * 1))) ta3 rfl (hw.fz (hc359 0 _ rfl))) ?_
                    obtain ⟨x361, hx362, h⟩ := bind_some h
                    refine el_call (wanted_y rfl rfl rfl hb352) rfl rfl (run_call (vals := (List.toArray [(Value.int .i64 x353), (Value.int .i64 (-1)), (Value.int .i64 28800)])) rfl cl48 rfl) (fishref2_within.calls hw  hx362) ?_
                    rintro _ w365 ⟨f363, hle364, rfl, hw⟩
                    replace hs5 := hs5.mono hle364
                    replace hs9 := hs9.mono hle364
                    replace hs13 := hs13.mono hle364
                    replace hs17 := hs17.mono hle364
                    replace hs21 := hs21.mono hle364
                    replace hc331 := fun j v hv => hcell_le hle364 (hc331 j v hv)
                    replace hc345 := fun j v hv => hcell_le hle364 (hc345 j v hv)
                    replace hc359 := fun j v hv => hcell_le hle364 (hc359 j v hv)
                    refine el_val (v := (Value.bool (!x361))) (wanted_y rfl rfl rfl hb352) rfl rfl (run_pev (v := (Value.bool (!x361))) rfl) ?_
                    refine el_val (v := (Value.bool (!x361))) (wanted_n rfl) rfl rfl (run_pick_f rfl hb352 rfl) ?_
                    refine el_nil ?_
                    obtain rfl := Option.some.inj h
                    exact ⟨f363, (HP.le_trans (HP.le_trans hle336 hle350) hle364), ⟨rfl, rfl, rfl, rfl, rfl, trivial⟩, hw⟩
              · rintro ρ366 w367 ⟨f323, hle324, hl325, hw⟩
                first | refine ewp_live hl325 fun ρ368 => ?_ | rw [← hl325.eq]
                replace hs5 := hs5.mono hle324
                replace hs9 := hs9.mono hle324
                replace hs13 := hs13.mono hle324
                replace hs17 := hs17.mono hle324
                replace hs21 := hs21.mono hle324
                refine ewp_cond s322 rfl (fun hb369 => ?_) (fun hb369 => ?_)
                · replace h := ifb_t hb369 h
                  refine ewp_seq ?_
                  refine ewp_region ?_
                  refine el_val (v := (Value.int .i64 2)) (wanted_n rfl) rfl rfl (run_pev (v := (Value.int .i64 2)) rfl) ?_
                  refine el_nil ?_
                  refine ewp_ret ?_
                  replace hw := hw.drop_0
                  obtain rfl := Option.some.inj h
                  refine ⟨_, rfl, fun hf => ⟨_, hf, fun hr => ?_⟩⟩
                  subst hr
                  exact ⟨_, res1 rfl, f323, (HP.le_trans (HP.le_trans (HP.le_trans hle193 hle209) hle219) hle324), rfl, hw⟩
                · replace h := ifb_f hb369 h
                  refine ewp_skip ?_
                  refine ewp_region ?_
                  refine el_val (v := (Value.int .i64 (w64 ((i273 : Int) + 1)))) (wanted_n rfl) rfl rfl (run_pev (v := (Value.int .i64 (w64 ((i273 : Int) + 1)))) rfl) ?_
                  refine el_val (v := (Value.int .i64 (w64 ((i273 : Int) + 1)))) (wanted_n rfl) rfl rfl (run_pev (v := (Value.int .i64 (w64 ((i273 : Int) + 1)))) rfl) ?_
                  refine el_nil ?_
                  obtain rfl := Option.some.inj h
                  exact ⟨_, rfl, f323, (HP.le_trans hle219 hle324), ⟨rfl, rfl, rfl, (congrArg (Value.int .i64) (succ_w64 hs5.room hx)), trivial⟩, hw⟩
            · rintro s217 ρ370 w371 hfin372 ⟨f218, hle219, hl220, hw⟩
              first | refine ewp_live hl220 fun ρ373 => ?_ | rw [← hl220.eq]
              replace hs5 := hs5.mono hle219
              replace hs9 := hs9.mono hle219
              replace hs13 := hs13.mono hle219
              replace hs17 := hs17.mono hle219
              replace hs21 := hs21.mono hle219
              refine ewp_seq ?_
              refine ewp_region ?_
              refine el_val (v := (Value.bool (decide ((p1.Ready.length : Int) < (p1.Ready.length : Int))))) (wanted_n rfl) rfl rfl (run_pev (v := (Value.bool (decide ((p1.Ready.length : Int) < (p1.Ready.length : Int))))) rfl) ?_
              refine el_nil ?_
              refine ewp_seq ?_
              refine ewp_cond_f rfl (nlt_self _) ?_
              refine ewp_exit ?_
              exact ⟨s217, hfin372, f218, hle219, ⟨rfl, rfl, trivial⟩, hw⟩
          · rintro ρ374 w375 ⟨s217, rfl, f218, hle219, hl220, hw⟩
            replace h := on_go h
            first | refine ewp_live hl220 fun ρ376 => ?_ | rw [← hl220.eq]
            replace hs5 := hs5.mono hle219
            replace hs9 := hs9.mono hle219
            replace hs13 := hs13.mono hle219
            replace hs17 := hs17.mono hle219
            replace hs21 := hs21.mono hle219
            refine ewp_seq ?_
            refine ewp_seq ?_
            refine ewp_region ?_
            refine el_val (v := (Value.pointer (some ⟨b182, 3, none⟩))) (wanted_n rfl) rfl rfl (run_fieldAddr tf26_3 (o := 0) rfl) ?_
            refine el_val (v := (Value.slice A14 n15 c16)) (wanted_n rfl) rfl rfl (run_load1 (ad := ⟨b182, 3, none⟩) ta23 rfl (wd_cell 0 hw rfl rfl)) ?_
            refine el_val (v := (Value.int .i64 (p1.Arcs.length : Int))) (wanted_n rfl) rfl rfl (run_lenS te23 rfl hs17.len) ?_
            refine el_val (v := (Value.int .i64 0)) (wanted_n rfl) rfl rfl (run_pev (v := (Value.int .i64 0)) rfl) ?_
            refine el_nil ?_
            obtain ⟨c399, hc400, h⟩ := bind_some h
            refine ewp_M (fun ρ' w' => ∃ s377, c399 = .go s377 ∧ ∃ (f378 : HP), HP.le f218 f378 ∧ Live ρ' [(1, (Value.pointer (some ⟨b182, 0, none⟩))), (3, (Value.int .i64 (p1.Ready.length : Int)))] ∧ Wd G w' f378 (Blk b182 (.cells (List.toArray [(Value.slice A2 n3 c4), (Value.slice A6 n7 c8), (Value.slice A10 n11 c12), (Value.slice A14 n15 c16), (Value.slice A18 n19 c20)]) 26 (0, 0)) :: L)) (fun ρ' w' => ∃ x_, c399 = .out x_ ∧ (x_ = r → RetPost Try.prog Try.f32 (fishref2_GraphFault.R G f L A2 n3 c4 A6 n7 c8 A10 n11 c12 A14 n15 c16 A18 n19 c20 p1 r) .ret ρ' w')) noX ?_ ?_ ?_ ?_
            · refine ewp_block ?_
              refine ewp_forC (fun (i401 : Nat) (s377 : Unit) ρ' w' => ∃ (f378 : HP), HP.le f218 f378 ∧ Live ρ' [(1, (Value.pointer (some ⟨b182, 0, none⟩))), (3, (Value.int .i64 (p1.Ready.length : Int))), (75, (Value.slice A14 n15 c16)), (76, (Value.int .i64 (p1.Arcs.length : Int))), (77, (Value.int .i64 (i401 : Int)))] ∧ Wd G w' f378 (Blk b182 (.cells (List.toArray [(Value.slice A2 n3 c4), (Value.slice A6 n7 c8), (Value.slice A10 n11 c12), (Value.slice A14 n15 c16), (Value.slice A18 n19 c20)]) 26 (0, 0)) :: L)) hc400 ⟨f218, (HP.le_refl _), ⟨rfl, rfl, rfl, rfl, rfl, trivial⟩, hw⟩ ?_ ?_
              · rintro i401 x402 s377 ct405 ρ403 w404 hx h ⟨f378, hle379, hl380, hw⟩
                unfold fishref2_GraphFault_b7 at h
                first | refine ewp_live hl380 fun ρ406 => ?_ | rw [← hl380.eq]
                replace hs5 := hs5.mono hle379
                replace hs9 := hs9.mono hle379
                replace hs13 := hs13.mono hle379
                replace hs17 := hs17.mono hle379
                replace hs21 := hs21.mono hle379
                refine ewp_seq ?_
                refine ewp_region ?_
                refine el_val (v := (Value.bool (decide ((i401 : Int) < (p1.Arcs.length : Int))))) (wanted_n rfl) rfl rfl (run_pev (v := (Value.bool (decide ((i401 : Int) < (p1.Arcs.length : Int))))) rfl) ?_
                refine el_nil ?_
                refine ewp_seq ?_
                refine ewp_cond_t rfl (lt_len hx) ?_
                refine ewp_skip ?_
                refine ewp_seq ?_
                refine ewp_block ?_
                refine ewp_seq ?_
                refine ewp_region ?_
                obtain ⟨b407, of408, es409, hA410, hc411, he412⟩ := sl_el hs17 (idx_nat hx)
                obtain rfl := fS_mend_Arc.op he412
                refine el_val (v := (Value.pointer (some (eAdr A14 (((i401 : Int)).toNat * 3))))) (wanted_n rfl) rfl rfl (run_idx te23 ts34 rfl hs17.len rfl (idx_nat hx) hA410) ?_
                refine el_val (v := (Value.agg #[(Value.int .i64 x402.From), (Value.int .i64 x402.To), (Value.int .i64 x402.Len)])) (wanted_n rfl) rfl rfl (run_loadN (ad := (eAdr A14 (((i401 : Int)).toNat * 3))) (cs := [(Value.int .i64 x402.From), (Value.int .i64 x402.To), (Value.int .i64 x402.Len)]) ta34 ts34 rfl rfl (fz_cells hw hc411)) ?_
                refine el_exv (wanted_n rfl) rfl rfl (run_allocE (cs := [(Value.int .i64 0), (Value.int .i64 0), (Value.int .i64 0)]) tz34 rfl hw) ?_
                rintro w415 _ ⟨b413, rfl, hw⟩
                refine el_exu (wanted_n rfl) rfl (run_blkSetE (new := List.toArray [(Value.int .i64 x402.From), (Value.int .i64 x402.To), (Value.int .i64 x402.Len)]) hw rfl rfl ts34 rfl rfl rfl) ?_
                rintro w416 hw
                refine el_nil ?_
                refine ewp_seq ?_
                refine ewp_region ?_
                refine el_val (v := (Value.agg #[(Value.int .i64 x402.From), (Value.int .i64 x402.To), (Value.int .i64 x402.Len)])) (wanted_n rfl) rfl rfl (run_loadN (ad := ⟨b413, 0, none⟩) (cs := [(Value.int .i64 x402.From), (Value.int .i64 x402.To), (Value.int .i64 x402.Len)]) ta34 ts34 rfl rfl (wd_cells 0 hw rfl rfl)) ?_
                refine el_val (v := (Value.int .i64 (p1.Ready.length : Int))) (wanted_n rfl) rfl rfl (run_pev (v := (Value.int .i64 (p1.Ready.length : Int))) rfl) ?_
                obtain ⟨x417, hx418, h⟩ := bind_some h
                refine el_call (wanted_n rfl) rfl rfl (run_call (vals := (List.toArray [(Value.agg #[(Value.int .i64 x402.From), (Value.int .i64 x402.To), (Value.int .i64 x402.Len)]), (Value.int .i64 (p1.Ready.length : Int))])) rfl cl58 rfl) (fishref2_arcFault.calls hw  hx418) ?_
                rintro _ w421 ⟨f419, hle420, rfl, hw⟩
                replace hs5 := hs5.mono hle420
                replace hs9 := hs9.mono hle420
                replace hs13 := hs13.mono hle420
                replace hs17 := hs17.mono hle420
                replace hs21 := hs21.mono hle420
                replace hc411 := fun j v hv => hcell_le hle420 (hc411 j v hv)
                refine el_val (v := (Value.int .i64 x417)) (wanted_n rfl) rfl rfl (run_pev (v := (Value.int .i64 x417)) rfl) ?_
                refine el_nil ?_
                refine ewp_seq ?_
                refine ewp_region ?_
                refine el_val (v := (Value.int .i64 x417)) (wanted_n rfl) rfl rfl (run_pev (v := (Value.int .i64 x417)) rfl) ?_
                refine el_val (v := (Value.bool (x417 != 0))) (wanted_n rfl) rfl rfl (run_pev (v := (Value.bool (x417 != 0))) rfl) ?_
                refine el_nil ?_
                refine ewp_cond (x417 != 0) rfl (fun hb422 => ?_) (fun hb422 => ?_)
                · replace h := ifb_t hb422 h
                  refine ewp_seq ?_
                  refine ewp_region ?_
                  refine el_val (v := (Value.int .i64 x417)) (wanted_n rfl) rfl rfl (run_pev (v := (Value.int .i64 x417)) rfl) ?_
                  refine el_val (v := (Value.int .i64 x417)) (wanted_n rfl) rfl rfl (run_pev (v := (Value.int .i64 x417)) rfl) ?_
                  refine el_nil ?_
                  refine ewp_ret ?_
                  replace hw := hw.drop_0
                  replace hw := hw.drop_0
                  obtain rfl := Option.some.inj h
                  refine ⟨_, rfl, fun hf => ⟨_, hf, fun hr => ?_⟩⟩
                  subst hr
                  exact ⟨_, res1 rfl, f419, (HP.le_trans (HP.le_trans (HP.le_trans (HP.le_trans hle193 hle209) hle219) hle379) hle420), rfl, hw⟩
                · replace h := ifb_f hb422 h
                  refine ewp_skip ?_
                  refine ewp_region ?_
                  refine el_val (v := (Value.int .i64 (w64 ((i401 : Int) + 1)))) (wanted_n rfl) rfl rfl (run_pev (v := (Value.int .i64 (w64 ((i401 : Int) + 1)))) rfl) ?_
                  refine el_val (v := (Value.int .i64 (w64 ((i401 : Int) + 1)))) (wanted_n rfl) rfl rfl (run_pev (v := (Value.int .i64 (w64 ((i401 : Int) + 1)))) rfl) ?_
                  refine el_nil ?_
                  replace hw := hw.drop_0
                  obtain rfl := Option.some.inj h
                  exact ⟨_, rfl, f419, (HP.le_trans hle379 hle420), ⟨rfl, rfl, rfl, rfl, (congrArg (Value.int .i64) (succ_w64 hs17.room hx)), trivial⟩, hw⟩
              · rintro s377 ρ423 w424 hfin425 ⟨f378, hle379, hl380, hw⟩
                first | refine ewp_live hl380 fun ρ426 => ?_ | rw [← hl380.eq]
                replace hs5 := hs5.mono hle379
                replace hs9 := hs9.mono hle379
                replace hs13 := hs13.mono hle379
                replace hs17 := hs17.mono hle379
                replace hs21 := hs21.mono hle379
                refine ewp_seq ?_
                refine ewp_region ?_
                refine el_val (v := (Value.bool (decide ((p1.Arcs.length : Int) < (p1.Arcs.length : Int))))) (wanted_n rfl) rfl rfl (run_pev (v := (Value.bool (decide ((p1.Arcs.length : Int) < (p1.Arcs.length : Int))))) rfl) ?_
                refine el_nil ?_
                refine ewp_seq ?_
                refine ewp_cond_f rfl (nlt_self _) ?_
                refine ewp_exit ?_
                exact ⟨s377, hfin425, f378, hle379, ⟨rfl, rfl, trivial⟩, hw⟩
            · rintro ρ427 w428 ⟨s377, rfl, f378, hle379, hl380, hw⟩
              replace h := on_go h
              first | refine ewp_live hl380 fun ρ429 => ?_ | rw [← hl380.eq]
              replace hs5 := hs5.mono hle379
              replace hs9 := hs9.mono hle379
              replace hs13 := hs13.mono hle379
              replace hs17 := hs17.mono hle379
              replace hs21 := hs21.mono hle379
              refine ewp_seq ?_
              refine ewp_seq ?_
              refine ewp_region ?_
              refine el_val (v := (Value.pointer (some ⟨b182, 4, none⟩))) (wanted_n rfl) rfl rfl (run_fieldAddr tf26_4 (o := 0) rfl) ?_
              refine el_val (v := (Value.slice A18 n19 c20)) (wanted_n rfl) rfl rfl (run_load1 (ad := ⟨b182, 4, none⟩) ta24 rfl (wd_cell 0 hw rfl rfl)) ?_
              refine el_val (v := (Value.int .i64 (p1.Choices.length : Int))) (wanted_n rfl) rfl rfl (run_lenS te24 rfl hs21.len) ?_
              refine el_val (v := (Value.int .i64 0)) (wanted_n rfl) rfl rfl (run_pev (v := (Value.int .i64 0)) rfl) ?_
              refine el_nil ?_
              obtain ⟨c490, hc491, h⟩ := bind_some h
              refine ewp_M (fun ρ' w' => ∃ s430, c490 = .go s430 ∧ ∃ (f431 : HP), HP.le f378 f431 ∧ Live ρ' [] ∧ Wd G w' f431 (Blk b182 (.cells (List.toArray [(Value.slice A2 n3 c4), (Value.slice A6 n7 c8), (Value.slice A10 n11 c12), (Value.slice A14 n15 c16), (Value.slice A18 n19 c20)]) 26 (0, 0)) :: L)) (fun ρ' w' => ∃ x_, c490 = .out x_ ∧ (x_ = r → RetPost Try.prog Try.f32 (fishref2_GraphFault.R G f L A2 n3 c4 A6 n7 c8 A10 n11 c12 A14 n15 c16 A18 n19 c20 p1 r) .ret ρ' w')) noX ?_ ?_ ?_ ?_
              · refine ewp_block ?_
                refine ewp_forC (fun (i492 : Nat) (s430 : Unit) ρ' w' => ∃ (f431 : HP), HP.le f378 f431 ∧ Live ρ' [(3, (Value.int .i64 (p1.Ready.length : Int))), (89, (Value.slice A18 n19 c20)), (90, (Value.int .i64 (p1.Choices.length : Int))), (91, (Value.int .i64 (i492 : Int)))] ∧ Wd G w' f431 (Blk b182 (.cells (List.toArray [(Value.slice A2 n3 c4), (Value.slice A6 n7 c8), (Value.slice A10 n11 c12), (Value.slice A14 n15 c16), (Value.slice A18 n19 c20)]) 26 (0, 0)) :: L)) hc491 ⟨f378, (HP.le_refl _), ⟨rfl, rfl, rfl, rfl, trivial⟩, hw⟩ ?_ ?_
                · rintro i492 x493 s430 ct496 ρ494 w495 hx h ⟨f431, hle432, hl433, hw⟩
                  unfold fishref2_GraphFault_b10 at h
                  first | refine ewp_live hl433 fun ρ497 => ?_ | rw [← hl433.eq]
                  replace hs5 := hs5.mono hle432
                  replace hs9 := hs9.mono hle432
                  replace hs13 := hs13.mono hle432
                  replace hs17 := hs17.mono hle432
                  replace hs21 := hs21.mono hle432
                  refine ewp_seq ?_
                  refine ewp_region ?_
                  refine el_val (v := (Value.bool (decide ((i492 : Int) < (p1.Choices.length : Int))))) (wanted_n rfl) rfl rfl (run_pev (v := (Value.bool (decide ((i492 : Int) < (p1.Choices.length : Int))))) rfl) ?_
                  refine el_nil ?_
                  refine ewp_seq ?_
                  refine ewp_cond_t rfl (lt_len hx) ?_
                  refine ewp_skip ?_
                  refine ewp_seq ?_
                  refine ewp_block ?_
                  refine ewp_seq ?_
                  refine ewp_region ?_
                  obtain ⟨b498, of499, es500, hA501, hc502, he503⟩ := sl_el hs21 (idx_nat hx)
                  obtain ⟨A504, n505, c506, rfl, hs507⟩ := fS_mend_Choice.op he503
                  refine el_val (v := (Value.pointer (some (eAdr A18 (((i492 : Int)).toNat * 1))))) (wanted_n rfl) rfl rfl (run_idx te24 ts37 rfl hs21.len rfl (idx_nat hx) hA501) ?_
                  refine el_val (v := (Value.agg #[(Value.slice A504 n505 c506)])) (wanted_n rfl) rfl rfl (run_loadN (ad := (eAdr A18 (((i492 : Int)).toNat * 1))) (cs := [(Value.slice A504 n505 c506)]) ta37 ts37 rfl rfl (fz_cells hw hc502)) ?_
                  refine el_exv (wanted_n rfl) rfl rfl (run_allocE (cs := [(Value.slice none 0 0)]) tz37 rfl hw) ?_
                  rintro w510 _ ⟨b508, rfl, hw⟩
                  refine el_exu (wanted_n rfl) rfl (run_blkSetE (new := List.toArray [(Value.slice A504 n505 c506)]) hw rfl rfl ts37 rfl rfl rfl) ?_
                  rintro w511 hw
                  refine el_nil ?_
                  refine ewp_seq ?_
                  refine ewp_seq ?_
                  refine ewp_region ?_
                  refine el_val (v := (Value.pointer (some ⟨b508, 0, none⟩))) (wanted_n rfl) rfl rfl (run_fieldAddr tf37_0 (o := 0) rfl) ?_
                  refine el_val (v := (Value.slice A504 n505 c506)) (wanted_n rfl) rfl rfl (run_load1 (ad := ⟨b508, 0, none⟩) ta35 rfl (wd_cell 0 hw rfl rfl)) ?_
                  refine el_val (v := (Value.int .i64 (x493.Ways.length : Int))) (wanted_n rfl) rfl rfl (run_lenS te35 rfl hs507.len) ?_
                  refine el_val (v := (Value.bool (decide ((x493.Ways.length : Int) > 3)))) (wanted_n rfl) rfl rfl (run_pev (v := (Value.bool (decide ((x493.Ways.length : Int) > 3)))) rfl) ?_
                  refine el_nil ?_
                  refine ewp_cond (decide ((x493.Ways.length : Int) > 3)) rfl (fun hb512 => ?_) (fun hb512 => ?_)
                  · replace h := ifb_t hb512 h
                    refine ewp_seq ?_
                    refine ewp_region ?_
                    refine el_val (v := (Value.int .i64 4)) (wanted_n rfl) rfl rfl (run_pev (v := (Value.int .i64 4)) rfl) ?_
                    refine el_nil ?_
                    refine ewp_ret ?_
                    replace hw := hw.drop_0
                    replace hw := hw.drop_0
                    obtain rfl := Option.some.inj h
                    refine ⟨_, rfl, fun hf => ⟨_, hf, fun hr => ?_⟩⟩
                    subst hr
                    exact ⟨_, res1 rfl, f431, (HP.le_trans (HP.le_trans (HP.le_trans (HP.le_trans hle193 hle209) hle219) hle379) hle432), rfl, hw⟩
                  · replace h := ifb_f hb512 h
                    refine ewp_skip ?_
                    refine ewp_seq ?_
                    refine ewp_region ?_
                    refine el_val (v := (Value.pointer (some ⟨b508, 0, none⟩))) (wanted_n rfl) rfl rfl (run_fieldAddr tf37_0 (o := 0) rfl) ?_
                    refine el_val (v := (Value.slice A504 n505 c506)) (wanted_n rfl) rfl rfl (run_load1 (ad := ⟨b508, 0, none⟩) ta35 rfl (wd_cell 0 hw rfl rfl)) ?_
                    refine el_val (v := (Value.int .i64 (x493.Ways.length : Int))) (wanted_n rfl) rfl rfl (run_lenS te35 rfl hs507.len) ?_
                    refine el_val (v := (Value.int .i64 0)) (wanted_n rfl) rfl rfl (run_pev (v := (Value.int .i64 0)) rfl) ?_
                    refine el_nil ?_
                    obtain ⟨c552, hc553, h⟩ := bind_some h
                    refine ewp_M (fun ρ' w' => ∃ s513, c552 = .go s513 ∧ ∃ (f514 : HP), HP.le f431 f514 ∧ Live ρ' [(3, (Value.int .i64 (p1.Ready.length : Int))), (89, (Value.slice A18 n19 c20)), (90, (Value.int .i64 (p1.Choices.length : Int))), (91, (Value.int .i64 (i492 : Int)))] ∧ Wd G w' f514 (Blk b508 (.cells (List.toArray [(Value.slice A504 n505 c506)]) 37 (0, 0)) :: Blk b182 (.cells (List.toArray [(Value.slice A2 n3 c4), (Value.slice A6 n7 c8), (Value.slice A10 n11 c12), (Value.slice A14 n15 c16), (Value.slice A18 n19 c20)]) 26 (0, 0)) :: L)) (fun ρ' w' => ∃ x_, c552 = .out x_ ∧ (x_ = r → RetPost Try.prog Try.f32 (fishref2_GraphFault.R G f L A2 n3 c4 A6 n7 c8 A10 n11 c12 A14 n15 c16 A18 n19 c20 p1 r) .ret ρ' w')) noX ?_ ?_ ?_ ?_
                    · refine ewp_block ?_
                      refine ewp_forC (fun (i554 : Nat) (s513 : Unit) ρ' w' => ∃ (f514 : HP), HP.le f431 f514 ∧ Live ρ' [(3, (Value.int .i64 (p1.Ready.length : Int))), (89, (Value.slice A18 n19 c20)), (90, (Value.int .i64 (p1.Choices.length : Int))), (91, (Value.int .i64 (i492 : Int))), (100, (Value.slice A504 n505 c506)), (101, (Value.int .i64 (x493.Ways.length : Int))), (102, (Value.int .i64 (i554 : Int)))] ∧ Wd G w' f514 (Blk b508 (.cells (List.toArray [(Value.slice A504 n505 c506)]) 37 (0, 0)) :: Blk b182 (.cells (List.toArray [(Value.slice A2 n3 c4), (Value.slice A6 n7 c8), (Value.slice A10 n11 c12), (Value.slice A14 n15 c16), (Value.slice A18 n19 c20)]) 26 (0, 0)) :: L)) hc553 ⟨f431, (HP.le_refl _), ⟨rfl, rfl, rfl, rfl, rfl, rfl, rfl, trivial⟩, hw⟩ ?_ ?_
                      · rintro i554 x555 s513 ct558 ρ556 w557 hx h ⟨f514, hle515, hl516, hw⟩
                        unfold fishref2_GraphFault_b12 at h
                        first | refine ewp_live hl516 fun ρ559 => ?_ | rw [← hl516.eq]
                        replace hs5 := hs5.mono hle515
                        replace hs9 := hs9.mono hle515
                        replace hs13 := hs13.mono hle515
                        replace hs17 := hs17.mono hle515
                        replace hs21 := hs21.mono hle515
                        replace hs507 := hs507.mono hle515
                        replace hc502 := fun j v hv => hcell_le hle515 (hc502 j v hv)
                        refine ewp_seq ?_
                        refine ewp_region ?_
                        refine el_val (v := (Value.bool (decide ((i554 : Int) < (x493.Ways.length : Int))))) (wanted_n rfl) rfl rfl (run_pev (v := (Value.bool (decide ((i554 : Int) < (x493.Ways.length : Int))))) rfl) ?_
                        refine el_nil ?_
                        refine ewp_seq ?_
                        refine ewp_cond_t rfl (lt_len hx) ?_
                        refine ewp_skip ?_
                        refine ewp_seq ?_
                        refine ewp_block ?_
                        refine ewp_seq ?_
                        refine ewp_region ?_
                        obtain ⟨b560, of561, es562, hA563, hc564, he565⟩ := sl_el hs507 (idx_nat hx)
                        obtain ⟨A566, n567, c568, rfl, hs569⟩ := he565
                        refine el_val (v := (Value.pointer (some (eAdr A504 (((i554 : Int)).toNat * 1))))) (wanted_n rfl) rfl rfl (run_idx te35 ts23 rfl hs507.len rfl (idx_nat hx) hA563) ?_
                        refine el_val (v := (Value.slice A566 n567 c568)) (wanted_n rfl) rfl rfl (run_load1 (ad := (eAdr A504 (((i554 : Int)).toNat * 1))) ta23 rfl (hw.fz (hc564 0 _ rfl))) ?_
                        refine el_val (v := (Value.slice A566 n567 c568)) (wanted_n rfl) rfl rfl (run_pev (v := (Value.slice A566 n567 c568)) rfl) ?_
                        refine el_nil ?_
                        refine ewp_seq ?_
                        refine ewp_seq ?_
                        refine ewp_region ?_
                        refine el_val (v := (Value.slice A566 n567 c568)) (wanted_n rfl) rfl rfl (run_pev (v := (Value.slice A566 n567 c568)) rfl) ?_
                        refine el_val (v := (Value.int .i64 (x555.length : Int))) (wanted_n rfl) rfl rfl (run_lenS te23 rfl hs569.len) ?_
                        refine el_val (v := (Value.bool (decide ((x555.length : Int) > 4)))) (wanted_n rfl) rfl rfl (run_pev (v := (Value.bool (decide ((x555.length : Int) > 4)))) rfl) ?_
                        refine el_nil ?_
                        refine ewp_cond (decide ((x555.length : Int) > 4)) rfl (fun hb570 => ?_) (fun hb570 => ?_)
                        · replace h := ifb_t hb570 h
                          refine ewp_seq ?_
                          refine ewp_region ?_
                          refine el_val (v := (Value.int .i64 4)) (wanted_n rfl) rfl rfl (run_pev (v := (Value.int .i64 4)) rfl) ?_
                          refine el_nil ?_
                          refine ewp_ret ?_
                          replace hw := hw.drop_0
                          replace hw := hw.drop_0
                          obtain rfl := Option.some.inj h
                          refine ⟨_, rfl, fun hf => ⟨_, hf, fun hr => ?_⟩⟩
                          subst hr
                          exact ⟨_, res1 rfl, f514, (HP.le_trans (HP.le_trans (HP.le_trans (HP.le_trans (HP.le_trans hle193 hle209) hle219) hle379) hle432) hle515), rfl, hw⟩
                        · replace h := ifb_f hb570 h
                          refine ewp_skip ?_
                          refine ewp_seq ?_
                          refine ewp_region ?_
                          refine el_val (v := (Value.slice A566 n567 c568)) (wanted_n rfl) rfl rfl (run_pev (v := (Value.slice A566 n567 c568)) rfl) ?_
                          refine el_val (v := (Value.int .i64 (x555.length : Int))) (wanted_n rfl) rfl rfl (run_lenS te23 rfl hs569.len) ?_
                          refine el_val (v := (Value.int .i64 0)) (wanted_n rfl) rfl rfl (run_pev (v := (Value.int .i64 0)) rfl) ?_
                          refine el_nil ?_
                          obtain ⟨c593, hc594, h⟩ := bind_some h
                          refine ewp_M (fun ρ' w' => ∃ s571, c593 = .go s571 ∧ ∃ (f572 : HP), HP.le f514 f572 ∧ Live ρ' [(3, (Value.int .i64 (p1.Ready.length : Int))), (89, (Value.slice A18 n19 c20)), (90, (Value.int .i64 (p1.Choices.length : Int))), (91, (Value.int .i64 (i492 : Int))), (100, (Value.slice A504 n505 c506)), (101, (Value.int .i64 (x493.Ways.length : Int))), (102, (Value.int .i64 (i554 : Int)))] ∧ Wd G w' f572 (Blk b508 (.cells (List.toArray [(Value.slice A504 n505 c506)]) 37 (0, 0)) :: Blk b182 (.cells (List.toArray [(Value.slice A2 n3 c4), (Value.slice A6 n7 c8), (Value.slice A10 n11 c12), (Value.slice A14 n15 c16), (Value.slice A18 n19 c20)]) 26 (0, 0)) :: L)) (fun ρ' w' => ∃ x_, c593 = .out x_ ∧ (x_ = r → RetPost Try.prog Try.f32 (fishref2_GraphFault.R G f L A2 n3 c4 A6 n7 c8 A10 n11 c12 A14 n15 c16 A18 n19 c20 p1 r) .ret ρ' w')) noX ?_ ?_ ?_ ?_
                          · refine ewp_block ?_
                            refine ewp_forC (fun (i595 : Nat) (s571 : Unit) ρ' w' => ∃ (f572 : HP), HP.le f514 f572 ∧ Live ρ' [(3, (Value.int .i64 (p1.Ready.length : Int))), (89, (Value.slice A18 n19 c20)), (90, (Value.int .i64 (p1.Choices.length : Int))), (91, (Value.int .i64 (i492 : Int))), (100, (Value.slice A504 n505 c506)), (101, (Value.int .i64 (x493.Ways.length : Int))), (102, (Value.int .i64 (i554 : Int))), (109, (Value.slice A566 n567 c568)), (110, (Value.int .i64 (x555.length : Int))), (111, (Value.int .i64 (i595 : Int)))] ∧ Wd G w' f572 (Blk b508 (.cells (List.toArray [(Value.slice A504 n505 c506)]) 37 (0, 0)) :: Blk b182 (.cells (List.toArray [(Value.slice A2 n3 c4), (Value.slice A6 n7 c8), (Value.slice A10 n11 c12), (Value.slice A14 n15 c16), (Value.slice A18 n19 c20)]) 26 (0, 0)) :: L)) hc594 ⟨f514, (HP.le_refl _), ⟨rfl, rfl, rfl, rfl, rfl, rfl, rfl, rfl, rfl, rfl, trivial⟩, hw⟩ ?_ ?_
                            · rintro i595 x596 s571 ct599 ρ597 w598 hx h ⟨f572, hle573, hl574, hw⟩
                              unfold fishref2_GraphFault_b13 at h
                              first | refine ewp_live hl574 fun ρ600 => ?_ | rw [← hl574.eq]
                              replace hs5 := hs5.mono hle573
                              replace hs9 := hs9.mono hle573
                              replace hs13 := hs13.mono hle573
                              replace hs17 := hs17.mono hle573
                              replace hs21 := hs21.mono hle573
                              replace hs507 := hs507.mono hle573
                              replace hc502 := fun j v hv => hcell_le hle573 (hc502 j v hv)
                              replace hs569 := hs569.mono hle573
                              replace hc564 := fun j v hv => hcell_le hle573 (hc564 j v hv)
                              refine ewp_seq ?_
                              refine ewp_region ?_
                              refine el_val (v := (Value.bool (decide ((i595 : Int) < (x555.length : Int))))) (wanted_n rfl) rfl rfl (run_pev (v := (Value.bool (decide ((i595 : Int) < (x555.length : Int))))) rfl) ?_
                              refine el_nil ?_
                              refine ewp_seq ?_
                              refine ewp_cond_t rfl (lt_len hx) ?_
                              refine ewp_skip ?_
                              refine ewp_seq ?_
                              refine ewp_block ?_
                              refine ewp_seq ?_
                              refine ewp_region ?_
                              obtain ⟨b601, of602, es603, hA604, hc605, he606⟩ := sl_el hs569 (idx_nat hx)
                              obtain rfl := fS_mend_Arc.op he606
                              refine el_val (v := (Value.pointer (some (eAdr A566 (((i595 : Int)).toNat * 3))))) (wanted_n rfl) rfl rfl (run_idx te23 ts34 rfl hs569.len rfl (idx_nat hx) hA604) ?_
                              refine el_val (v := (Value.agg #[(Value.int .i64 x596.From), (Value.int .i64 x596.To), (Value.int .i64 x596.Len)])) (wanted_n rfl) rfl rfl (run_loadN (ad := (eAdr A566 (((i595 : Int)).toNat * 3))) (cs := [(Value.int .i64 x596.From), (Value.int .i64 x596.To), (Value.int .i64 x596.Len)]) ta34 ts34 rfl rfl (fz_cells hw hc605)) ?_
                              refine el_exv (wanted_n rfl) rfl rfl (run_allocE (cs := [(Value.int .i64 0), (Value.int .i64 0), (Value.int .i64 0)]) tz34 rfl hw) ?_
                              rintro w609 _ ⟨b607, rfl, hw⟩
                              refine el_exu (wanted_n rfl) rfl (run_blkSetE (new := List.toArray [(Value.int .i64 x596.From), (Value.int .i64 x596.To), (Value.int .i64 x596.Len)]) hw rfl rfl ts34 rfl rfl rfl) ?_
                              rintro w610 hw
                              refine el_nil ?_
                              refine ewp_seq ?_
                              refine ewp_region ?_
                              refine el_val (v := (Value.agg #[(Value.int .i64 x596.From), (Value.int .i64 x596.To), (Value.int .i64 x596.Len)])) (wanted_n rfl) rfl rfl (run_loadN (ad := ⟨b607, 0, none⟩) (cs := [(Value.int .i64 x596.From), (Value.int .i64 x596.To), (Value.int .i64 x596.Len)]) ta34 ts34 rfl rfl (wd_cells 0 hw rfl rfl)) ?_
                              refine el_val (v := (Value.int .i64 (p1.Ready.length : Int))) (wanted_n rfl) rfl rfl (run_pev (v := (Value.int .i64 (p1.Ready.length : Int))) rfl) ?_
                              obtain ⟨x611, hx612, h⟩ := bind_some h
                              refine el_call (wanted_n rfl) rfl rfl (run_call (vals := (List.toArray [(Value.agg #[(Value.int .i64 x596.From), (Value.int .i64 x596.To), (Value.int .i64 x596.Len)]), (Value.int .i64 (p1.Ready.length : Int))])) rfl cl58 rfl) (fishref2_arcFault.calls hw  hx612) ?_
                              rintro _ w615 ⟨f613, hle614, rfl, hw⟩
                              replace hs5 := hs5.mono hle614
                              replace hs9 := hs9.mono hle614
                              replace hs13 := hs13.mono hle614
                              replace hs17 := hs17.mono hle614
                              replace hs21 := hs21.mono hle614
                              replace hs507 := hs507.mono hle614
                              replace hc502 := fun j v hv => hcell_le hle614 (hc502 j v hv)
                              replace hs569 := hs569.mono hle614
                              replace hc564 := fun j v hv => hcell_le hle614 (hc564 j v hv)
                              replace hc605 := fun j v hv => hcell_le hle614 (hc605 j v hv)
                              refine el_val (v := (Value.int .i64 x611)) (wanted_n rfl) rfl rfl (run_pev (v := (Value.int .i64 x611)) rfl) ?_
                              refine el_nil ?_
                              refine ewp_seq ?_
                              refine ewp_region ?_
                              refine el_val (v := (Value.int .i64 x611)) (wanted_n rfl) rfl rfl (run_pev (v := (Value.int .i64 x611)) rfl) ?_
                              refine el_val (v := (Value.bool (x611 != 0))) (wanted_n rfl) rfl rfl (run_pev (v := (Value.bool (x611 != 0))) rfl) ?_
                              refine el_nil ?_
                              refine ewp_cond (x611 != 0) rfl (fun hb616 => ?_) (fun hb616 => ?_)
                              · replace h := ifb_t hb616 h
                                refine ewp_seq ?_
                                refine ewp_region ?_
                                refine el_val (v := (Value.int .i64 x611)) (wanted_n rfl) rfl rfl (run_pev (v := (Value.int .i64 x611)) rfl) ?_
                                refine el_val (v := (Value.int .i64 x611)) (wanted_n rfl) rfl rfl (run_pev (v := (Value.int .i64 x611)) rfl) ?_
                                refine el_nil ?_
                                refine ewp_ret ?_
                                replace hw := hw.drop_0
                                replace hw := hw.drop_0
                                replace hw := hw.drop_0
                                obtain rfl := Option.some.inj h
                                refine ⟨_, rfl, fun hf => ⟨_, hf, fun hr => ?_⟩⟩
                                subst hr
                                exact ⟨_, res1 rfl, f613, (HP.le_trans (HP.le_trans (HP.le_trans (HP.le_trans (HP.le_trans (HP.le_trans (HP.le_trans hle193 hle209) hle219) hle379) hle432) hle515) hle573) hle614), rfl, hw⟩
                              · replace h := ifb_f hb616 h
                                refine ewp_skip ?_
                                refine ewp_region ?_
                                refine el_val (v := (Value.int .i64 (w64 ((i595 : Int) + 1)))) (wanted_n rfl) rfl rfl (run_pev (v := (Value.int .i64 (w64 ((i595 : Int) + 1)))) rfl) ?_
                                refine el_val (v := (Value.int .i64 (w64 ((i595 : Int) + 1)))) (wanted_n rfl) rfl rfl (run_pev (v := (Value.int .i64 (w64 ((i595 : Int) + 1)))) rfl) ?_
                                refine el_nil ?_
                                replace hw := hw.drop_0
                                obtain rfl := Option.some.inj h
                                exact ⟨_, rfl, f613, (HP.le_trans hle573 hle614), ⟨rfl, rfl, rfl, rfl, rfl, rfl, rfl, rfl, rfl, (congrArg (Value.int .i64) (succ_w64 hs569.room hx)), trivial⟩, hw⟩
                            · rintro s571 ρ617 w618 hfin619 ⟨f572, hle573, hl574, hw⟩
                              first | refine ewp_live hl574 fun ρ620 => ?_ | rw [← hl574.eq]
                              replace hs5 := hs5.mono hle573
                              replace hs9 := hs9.mono hle573
                              replace hs13 := hs13.mono hle573
                              replace hs17 := hs17.mono hle573
                              replace hs21 := hs21.mono hle573
                              replace hs507 := hs507.mono hle573
                              replace hc502 := fun j v hv => hcell_le hle573 (hc502 j v hv)
                              replace hs569 := hs569.mono hle573
                              replace hc564 := fun j v hv => hcell_le hle573 (hc564 j v hv)
                              refine ewp_seq ?_
                              refine ewp_region ?_
                              refine el_val (v := (Value.bool (decide ((x555.length : Int) < (x555.length : Int))))) (wanted_n rfl) rfl rfl (run_pev (v := (Value.bool (decide ((x555.length : Int) < (x555.length : Int))))) rfl) ?_
                              refine el_nil ?_
                              refine ewp_seq ?_
                              refine ewp_cond_f rfl (nlt_self _) ?_
                              refine ewp_exit ?_
                              exact ⟨s571, hfin619, f572, hle573, ⟨rfl, rfl, rfl, rfl, rfl, rfl, rfl, trivial⟩, hw⟩
                          · rintro ρ621 w622 ⟨s571, rfl, f572, hle573, hl574, hw⟩
                            replace h := on_go h
                            first | refine ewp_live hl574 fun ρ623 => ?_ | rw [← hl574.eq]
                            replace hs5 := hs5.mono hle573
                            replace hs9 := hs9.mono hle573
                            replace hs13 := hs13.mono hle573
                            replace hs17 := hs17.mono hle573
                            replace hs21 := hs21.mono hle573
                            replace hs507 := hs507.mono hle573
                            replace hc502 := fun j v hv => hcell_le hle573 (hc502 j v hv)
                            replace hs569 := hs569.mono hle573
                            replace hc564 := fun j v hv => hcell_le hle573 (hc564 j v hv)
                            refine ewp_region ?_
                            refine el_val (v := (Value.int .i64 (w64 ((i554 : Int) + 1)))) (wanted_n rfl) rfl rfl (run_pev (v := (Value.int .i64 (w64 ((i554 : Int) + 1)))) rfl) ?_
                            refine el_val (v := (Value.int .i64 (w64 ((i554 : Int) + 1)))) (wanted_n rfl) rfl rfl (run_pev (v := (Value.int .i64 (w64 ((i554 : Int) + 1)))) rfl) ?_
                            refine el_nil ?_
                            obtain rfl := Option.some.inj h
                            exact ⟨_, rfl, f572, (HP.le_trans hle515 hle573), ⟨rfl, rfl, rfl, rfl, rfl, rfl, (congrArg (Value.int .i64) (succ_w64 hs507.room hx)), trivial⟩, hw⟩
                          · rintro ρ624 w625 ⟨x626, rfl, hq627⟩
                            replace h := on_out h
                            obtain rfl := Option.some.inj h
                            exact ⟨_, rfl, fun hf => ⟨_, hf, hq627⟩⟩
                          · exact fun _ _ _ h => h.elim
                      · rintro s513 ρ628 w629 hfin630 ⟨f514, hle515, hl516, hw⟩
                        first | refine ewp_live hl516 fun ρ631 => ?_ | rw [← hl516.eq]
                        replace hs5 := hs5.mono hle515
                        replace hs9 := hs9.mono hle515
                        replace hs13 := hs13.mono hle515
                        replace hs17 := hs17.mono hle515
                        replace hs21 := hs21.mono hle515
                        replace hs507 := hs507.mono hle515
                        replace hc502 := fun j v hv => hcell_le hle515 (hc502 j v hv)
                        refine ewp_seq ?_
                        refine ewp_region ?_
                        refine el_val (v := (Value.bool (decide ((x493.Ways.length : Int) < (x493.Ways.length : Int))))) (wanted_n rfl) rfl rfl (run_pev (v := (Value.bool (decide ((x493.Ways.length : Int) < (x493.Ways.length : Int))))) rfl) ?_
                        refine el_nil ?_
                        refine ewp_seq ?_
                        refine ewp_cond_f rfl (nlt_self _) ?_
                        refine ewp_exit ?_
                        exact ⟨s513, hfin630, f514, hle515, ⟨rfl, rfl, rfl, rfl, trivial⟩, hw⟩
                    · rintro ρ632 w633 ⟨s513, rfl, f514, hle515, hl516, hw⟩
                      replace h := on_go h
                      first | refine ewp_live hl516 fun ρ634 => ?_ | rw [← hl516.eq]
                      replace hs5 := hs5.mono hle515
                      replace hs9 := hs9.mono hle515
                      replace hs13 := hs13.mono hle515
                      replace hs17 := hs17.mono hle515
                      replace hs21 := hs21.mono hle515
                      replace hs507 := hs507.mono hle515
                      replace hc502 := fun j v hv => hcell_le hle515 (hc502 j v hv)
                      refine ewp_region ?_
                      refine el_val (v := (Value.int .i64 (w64 ((i492 : Int) + 1)))) (wanted_n rfl) rfl rfl (run_pev (v := (Value.int .i64 (w64 ((i492 : Int) + 1)))) rfl) ?_
                      refine el_val (v := (Value.int .i64 (w64 ((i492 : Int) + 1)))) (wanted_n rfl) rfl rfl (run_pev (v := (Value.int .i64 (w64 ((i492 : Int) + 1)))) rfl) ?_
                      refine el_nil ?_
                      replace hw := hw.drop_0
                      obtain rfl := Option.some.inj h
                      exact ⟨_, rfl, f514, (HP.le_trans hle432 hle515), ⟨rfl, rfl, rfl, (congrArg (Value.int .i64) (succ_w64 hs21.room hx)), trivial⟩, hw⟩
                    · rintro ρ635 w636 ⟨x637, rfl, hq638⟩
                      replace h := on_out h
                      obtain rfl := Option.some.inj h
                      exact ⟨_, rfl, fun hf => ⟨_, hf, hq638⟩⟩
                    · exact fun _ _ _ h => h.elim
                · rintro s430 ρ639 w640 hfin641 ⟨f431, hle432, hl433, hw⟩
                  first | refine ewp_live hl433 fun ρ642 => ?_ | rw [← hl433.eq]
                  replace hs5 := hs5.mono hle432
                  replace hs9 := hs9.mono hle432
                  replace hs13 := hs13.mono hle432
                  replace hs17 := hs17.mono hle432
                  replace hs21 := hs21.mono hle432
                  refine ewp_seq ?_
                  refine ewp_region ?_
                  refine el_val (v := (Value.bool (decide ((p1.Choices.length : Int) < (p1.Choices.length : Int))))) (wanted_n rfl) rfl rfl (run_pev (v := (Value.bool (decide ((p1.Choices.length : Int) < (p1.Choices.length : Int))))) rfl) ?_
                  refine el_nil ?_
                  refine ewp_seq ?_
                  refine ewp_cond_f rfl (nlt_self _) ?_
                  refine ewp_exit ?_
                  exact ⟨s430, hfin641, f431, hle432, trivial, hw⟩
              · rintro ρ643 w644 ⟨s430, rfl, f431, hle432, hl433, hw⟩
                replace h := on_go h
                first | refine ewp_live hl433 fun ρ645 => ?_ | rw [← hl433.eq]
                replace hs5 := hs5.mono hle432
                replace hs9 := hs9.mono hle432
                replace hs13 := hs13.mono hle432
                replace hs17 := hs17.mono hle432
                replace hs21 := hs21.mono hle432
                refine ewp_seq ?_
                refine ewp_region ?_
                refine el_val (v := (Value.int .i64 0)) (wanted_n rfl) rfl rfl (run_pev (v := (Value.int .i64 0)) rfl) ?_
                refine el_nil ?_
                refine ewp_ret ?_
                replace hw := hw.drop_0
                obtain rfl := Option.some.inj h
                exact ⟨_, res1 rfl, f431, (HP.le_trans (HP.le_trans (HP.le_trans (HP.le_trans hle193 hle209) hle219) hle379) hle432), rfl, hw⟩
              · rintro ρ646 w647 ⟨x648, rfl, hq649⟩
                replace h := on_out h
                obtain rfl := Option.some.inj h
                exact hq649 rfl
              · exact fun _ _ _ h => h.elim
            · rintro ρ650 w651 ⟨x652, rfl, hq653⟩
              replace h := on_out h
              obtain rfl := Option.some.inj h
              exact hq653 rfl
            · exact fun _ _ _ h => h.elim
          · rintro ρ654 w655 ⟨x656, rfl, hq657⟩
            replace h := on_out h
            obtain rfl := Option.some.inj h
            exact hq657 rfl
          · exact fun _ _ _ h => h.elim
def fishref2_PickFault_b2 (p1 : S_mend_Graph) (i117 : Nat) (x118 : Int) (s81 : Unit) : Option (Ctl (Unit) (Ctl (Unit) (Int))) :=
  ((ifb (decide (x118 < 0)) (some true) ((idx p1.Choices (i117 : Int)).bind fun (x152 : S_mend_Choice) => (some (decide (x118 > (x152.Ways.length : Int)))))).bind fun (s146 : Bool) => (ifb s146 (some (.out (.out 2))) (some (.go ()))))
def fishref2_PickFault (p1 : S_mend_Graph) (p22 : List Int) : Option (Int) :=
  ((fishref2_GraphFault p1).bind fun (x74 : Int) => (ifb (x74 != 0) (some x74) (ifb ((p22.length : Int) != (p1.Choices.length : Int)) (some 1) ((forC (fishref2_PickFault_b2 p1) p22 ()).bind fun c115 => Ctl.on c115 (fun s81 => (some 0)) (fun x177 => (some x177))))))
def fishref2_PickFault.R (G : World) (f : HP) (L : List HProp) (A2 : Option Addr) (n3 : Nat) (c4 : Nat) (A6 : Option Addr) (n7 : Nat) (c8 : Nat) (A10 : Option Addr) (n11 : Nat) (c12 : Nat) (A14 : Option Addr) (n15 : Nat) (c16 : Nat) (A18 : Option Addr) (n19 : Nat) (c20 : Nat) (A23 : Option Addr) (n24 : Nat) (c25 : Nat) (p1 : S_mend_Graph) (p22 : List Int) (r : Int) : Value → World → Prop := fun v' w' =>
  ∃ (f' : HP), HP.le f f' ∧ v' = (Value.int .i64 r) ∧ Wd G w' f' (L)
theorem fishref2_PickFault.calls {G w : World} {f : HP} {L : List HProp} {A2 : Option Addr} {n3 : Nat} {c4 : Nat} {A6 : Option Addr} {n7 : Nat} {c8 : Nat} {A10 : Option Addr} {n11 : Nat} {c12 : Nat} {A14 : Option Addr} {n15 : Nat} {c16 : Nat} {A18 : Option Addr} {n19 : Nat} {c20 : Nat} {A23 : Option Addr} {n24 : Nat} {c25 : Nat} {p1 : S_mend_Graph} {p22 : List Int} (hw : Wd G w f (L)) (hs5 : SlF f (fInt .i64) A2 n3 c4 p1.Ready) (hs9 : SlF f (fInt .i64) A6 n7 c8 p1.Last) (hs13 : SlF f (fInt .i64) A10 n11 c12 p1.Due) (hs17 : SlF f fS_mend_Arc A14 n15 c16 p1.Arcs) (hs21 : SlF f fS_mend_Choice A18 n19 c20 p1.Choices) (hs26 : SlF f (fInt .i64) A23 n24 c25 p22) {r : Int} (h : fishref2_PickFault p1 p22 = some r) :
    Calls Try.prog 9 #[(Value.agg #[(Value.slice A2 n3 c4), (Value.slice A6 n7 c8), (Value.slice A10 n11 c12), (Value.slice A14 n15 c16), (Value.slice A18 n19 c20)]), (Value.slice A23 n24 c25)] w (Returns (fishref2_PickFault.R G f L A2 n3 c4 A6 n7 c8 A10 n11 c12 A14 n15 c16 A18 n19 c20 A23 n24 c25 p1 p22 r)) := by
  unfold fishref2_PickFault at h
  refine ecalls 40 Try.func9 rfl rfl ?_
  refine ewp_seq ?_
  refine ewp_region ?_
  refine el_exv (wanted_n rfl) rfl rfl (run_boxE (cs := [(Value.slice A2 n3 c4), (Value.slice A6 n7 c8), (Value.slice A10 n11 c12), (Value.slice A14 n15 c16), (Value.slice A18 n19 c20)]) rfl rfl hw) ?_
  rintro w73 _ ⟨b71, rfl, hw⟩
  refine el_val (v := (Value.int .i64 0)) (wanted_n rfl) rfl rfl (run_pev (v := (Value.int .i64 0)) rfl) ?_
  refine el_nil ?_
  refine ewp_seq ?_
  refine ewp_seq ?_
  refine ewp_region ?_
  refine el_val (v := (Value.agg #[(Value.slice A2 n3 c4), (Value.slice A6 n7 c8), (Value.slice A10 n11 c12), (Value.slice A14 n15 c16), (Value.slice A18 n19 c20)])) (wanted_n rfl) rfl rfl (run_loadN (ad := ⟨b71, 0, none⟩) (cs := [(Value.slice A2 n3 c4), (Value.slice A6 n7 c8), (Value.slice A10 n11 c12), (Value.slice A14 n15 c16), (Value.slice A18 n19 c20)]) ta26 ts26 rfl rfl (wd_cells 0 hw rfl rfl)) ?_
  obtain ⟨x74, hx75, h⟩ := bind_some h
  refine el_call (wanted_n rfl) rfl rfl (run_call (vals := (List.toArray [(Value.agg #[(Value.slice A2 n3 c4), (Value.slice A6 n7 c8), (Value.slice A10 n11 c12), (Value.slice A14 n15 c16), (Value.slice A18 n19 c20)])])) rfl cl32 rfl) (fishref2_GraphFault.calls hw hs5 hs9 hs13 hs17 hs21 hx75) ?_
  rintro _ w78 ⟨f76, hle77, rfl, hw⟩
  replace hs5 := hs5.mono hle77
  replace hs9 := hs9.mono hle77
  replace hs13 := hs13.mono hle77
  replace hs17 := hs17.mono hle77
  replace hs21 := hs21.mono hle77
  replace hs26 := hs26.mono hle77
  refine el_val (v := (Value.int .i64 x74)) (wanted_n rfl) rfl rfl (run_pev (v := (Value.int .i64 x74)) rfl) ?_
  refine el_nil ?_
  refine ewp_seq ?_
  refine ewp_region ?_
  refine el_val (v := (Value.int .i64 x74)) (wanted_n rfl) rfl rfl (run_pev (v := (Value.int .i64 x74)) rfl) ?_
  refine el_val (v := (Value.bool (x74 != 0))) (wanted_n rfl) rfl rfl (run_pev (v := (Value.bool (x74 != 0))) rfl) ?_
  refine el_nil ?_
  refine ewp_cond (x74 != 0) rfl (fun hb79 => ?_) (fun hb79 => ?_)
  · replace h := ifb_t hb79 h
    refine ewp_seq ?_
    refine ewp_region ?_
    refine el_val (v := (Value.int .i64 x74)) (wanted_n rfl) rfl rfl (run_pev (v := (Value.int .i64 x74)) rfl) ?_
    refine el_val (v := (Value.int .i64 x74)) (wanted_n rfl) rfl rfl (run_pev (v := (Value.int .i64 x74)) rfl) ?_
    refine el_nil ?_
    refine ewp_ret ?_
    replace hw := hw.drop_0
    obtain rfl := Option.some.inj h
    exact ⟨_, res1 rfl, f76, hle77, rfl, hw⟩
  · replace h := ifb_f hb79 h
    refine ewp_skip ?_
    refine ewp_seq ?_
    refine ewp_seq ?_
    refine ewp_region ?_
    refine el_val (v := (Value.slice A23 n24 c25)) (wanted_n rfl) rfl rfl (run_pev (v := (Value.slice A23 n24 c25)) rfl) ?_
    refine el_val (v := (Value.int .i64 (p22.length : Int))) (wanted_n rfl) rfl rfl (run_lenS te22 rfl hs26.len) ?_
    refine el_val (v := (Value.pointer (some ⟨b71, 4, none⟩))) (wanted_n rfl) rfl rfl (run_fieldAddr tf26_4 (o := 0) rfl) ?_
    refine el_val (v := (Value.slice A18 n19 c20)) (wanted_n rfl) rfl rfl (run_load1 (ad := ⟨b71, 4, none⟩) ta24 rfl (wd_cell 0 hw rfl rfl)) ?_
    refine el_val (v := (Value.int .i64 (p1.Choices.length : Int))) (wanted_n rfl) rfl rfl (run_lenS te24 rfl hs21.len) ?_
    refine el_val (v := (Value.bool ((p22.length : Int) != (p1.Choices.length : Int)))) (wanted_n rfl) rfl rfl (run_pev (v := (Value.bool ((p22.length : Int) != (p1.Choices.length : Int)))) rfl) ?_
    refine el_nil ?_
    refine ewp_cond ((p22.length : Int) != (p1.Choices.length : Int)) rfl (fun hb80 => ?_) (fun hb80 => ?_)
    · replace h := ifb_t hb80 h
      refine ewp_seq ?_
      refine ewp_region ?_
      refine el_val (v := (Value.int .i64 1)) (wanted_n rfl) rfl rfl (run_pev (v := (Value.int .i64 1)) rfl) ?_
      refine el_nil ?_
      refine ewp_ret ?_
      replace hw := hw.drop_0
      obtain rfl := Option.some.inj h
      exact ⟨_, res1 rfl, f76, hle77, rfl, hw⟩
    · replace h := ifb_f hb80 h
      refine ewp_skip ?_
      refine ewp_seq ?_
      refine ewp_seq ?_
      refine ewp_region ?_
      refine el_val (v := (Value.slice A23 n24 c25)) (wanted_n rfl) rfl rfl (run_pev (v := (Value.slice A23 n24 c25)) rfl) ?_
      refine el_val (v := (Value.int .i64 (p22.length : Int))) (wanted_n rfl) rfl rfl (run_lenS te22 rfl hs26.len) ?_
      refine el_val (v := (Value.int .i64 0)) (wanted_n rfl) rfl rfl (run_pev (v := (Value.int .i64 0)) rfl) ?_
      refine el_nil ?_
      obtain ⟨c115, hc116, h⟩ := bind_some h
      refine ewp_M (fun ρ' w' => ∃ s81, c115 = .go s81 ∧ ∃ (f82 : HP), HP.le f76 f82 ∧ Live ρ' [] ∧ Wd G w' f82 (Blk b71 (.cells (List.toArray [(Value.slice A2 n3 c4), (Value.slice A6 n7 c8), (Value.slice A10 n11 c12), (Value.slice A14 n15 c16), (Value.slice A18 n19 c20)]) 26 (0, 0)) :: L)) (fun ρ' w' => ∃ x_, c115 = .out x_ ∧ (x_ = r → RetPost Try.prog Try.f9 (fishref2_PickFault.R G f L A2 n3 c4 A6 n7 c8 A10 n11 c12 A14 n15 c16 A18 n19 c20 A23 n24 c25 p1 p22 r) .ret ρ' w')) noX ?_ ?_ ?_ ?_
      · refine ewp_block ?_
        refine ewp_forC (fun (i117 : Nat) (s81 : Unit) ρ' w' => ∃ (f82 : HP), HP.le f76 f82 ∧ Live ρ' [(2, (Value.pointer (some ⟨b71, 0, none⟩))), (19, (Value.slice A23 n24 c25)), (20, (Value.int .i64 (p22.length : Int))), (21, (Value.int .i64 (i117 : Int)))] ∧ Wd G w' f82 (Blk b71 (.cells (List.toArray [(Value.slice A2 n3 c4), (Value.slice A6 n7 c8), (Value.slice A10 n11 c12), (Value.slice A14 n15 c16), (Value.slice A18 n19 c20)]) 26 (0, 0)) :: L)) hc116 ⟨f76, (HP.le_refl _), ⟨rfl, rfl, rfl, rfl, trivial⟩, hw⟩ ?_ ?_
        · rintro i117 x118 s81 ct121 ρ119 w120 hx h ⟨f82, hle83, hl84, hw⟩
          unfold fishref2_PickFault_b2 at h
          first | refine ewp_live hl84 fun ρ122 => ?_ | rw [← hl84.eq]
          replace hs5 := hs5.mono hle83
          replace hs9 := hs9.mono hle83
          replace hs13 := hs13.mono hle83
          replace hs17 := hs17.mono hle83
          replace hs21 := hs21.mono hle83
          replace hs26 := hs26.mono hle83
          refine ewp_seq ?_
          refine ewp_region ?_
          refine el_val (v := (Value.bool (decide ((i117 : Int) < (p22.length : Int))))) (wanted_n rfl) rfl rfl (run_pev (v := (Value.bool (decide ((i117 : Int) < (p22.length : Int))))) rfl) ?_
          refine el_nil ?_
          refine ewp_seq ?_
          refine ewp_cond_t rfl (lt_len hx) ?_
          refine ewp_skip ?_
          refine ewp_seq ?_
          refine ewp_block ?_
          refine ewp_seq ?_
          refine ewp_region ?_
          refine el_val (v := (Value.int .i64 (i117 : Int))) (wanted_n rfl) rfl rfl (run_pev (v := (Value.int .i64 (i117 : Int))) rfl) ?_
          obtain ⟨b123, of124, es125, hA126, hc127, he128⟩ := sl_el hs26 (idx_nat hx)
          obtain rfl : es125 = _ := he128
          refine el_val (v := (Value.pointer (some (eAdr A23 (((i117 : Int)).toNat * 1))))) (wanted_n rfl) rfl rfl (run_idx te22 ts3 rfl hs26.len rfl (idx_nat hx) hA126) ?_
          refine el_val (v := (Value.int .i64 x118)) (wanted_n rfl) rfl rfl (run_load1 (ad := (eAdr A23 (((i117 : Int)).toNat * 1))) ta3 rfl (hw.fz (hc127 0 _ rfl))) ?_
          refine el_val (v := (Value.int .i64 (i117 : Int))) (wanted_n rfl) rfl rfl (run_pev (v := (Value.int .i64 (i117 : Int))) rfl) ?_
          refine el_val (v := (Value.int .i64 x118)) (wanted_n rfl) rfl rfl (run_pev (v := (Value.int .i64 x118)) rfl) ?_
          refine el_nil ?_
          refine ewp_seq ?_
          obtain ⟨s146, hc150, h⟩ := bind_some h
          refine ewp_N (fun ρ' w' => ∃ (f147 : HP), HP.le f82 f147 ∧ Live ρ' [(2, (Value.pointer (some ⟨b71, 0, none⟩))), (19, (Value.slice A23 n24 c25)), (20, (Value.int .i64 (p22.length : Int))), (21, (Value.int .i64 (i117 : Int))), (38, (Value.bool s146))] ∧ Wd G w' f147 (Blk b71 (.cells (List.toArray [(Value.slice A2 n3 c4), (Value.slice A6 n7 c8), (Value.slice A10 n11 c12), (Value.slice A14 n15 c16), (Value.slice A18 n19 c20)]) 26 (0, 0)) :: L)) ?_ ?_
          · replace h := hc150
            refine ewp_region ?_
            refine el_val (v := (Value.int .i64 x118)) (wanted_n rfl) rfl rfl (run_pev (v := (Value.int .i64 x118)) rfl) ?_
            refine el_val (v := (Value.bool (decide (x118 < 0)))) (wanted_n rfl) rfl rfl (run_pev (v := (Value.bool (decide (x118 < 0)))) rfl) ?_
            refine el_val (v := (Value.bool (decide (x118 < 0)))) (wanted_n rfl) rfl rfl (run_pev (v := (Value.bool (decide (x118 < 0)))) rfl) ?_
            rcases Bool.eq_false_or_eq_true (decide (x118 < 0)) with hb151 | hb151
            · replace h := ifb_t hb151 h
              refine el_pass (wanted_f rfl rfl rfl hb151) rfl rfl ?_
              refine el_pass (wanted_f rfl rfl rfl hb151) rfl rfl ?_
              refine el_pass (wanted_f rfl rfl rfl hb151) rfl rfl ?_
              refine el_pass (wanted_f rfl rfl rfl hb151) rfl rfl ?_
              refine el_pass (wanted_f rfl rfl rfl hb151) rfl rfl ?_
              refine el_pass (wanted_f rfl rfl rfl hb151) rfl rfl ?_
              refine el_pass (wanted_f rfl rfl rfl hb151) rfl rfl ?_
              refine el_pass (wanted_f rfl rfl rfl hb151) rfl rfl ?_
              refine el_pass (wanted_f rfl rfl rfl hb151) rfl rfl ?_
              refine el_val (v := (Value.bool true)) (wanted_n rfl) rfl rfl (run_pick_t rfl hb151 rfl) ?_
              refine el_nil ?_
              obtain rfl := Option.some.inj h
              exact ⟨f82, (HP.le_refl _), ⟨rfl, rfl, rfl, rfl, rfl, trivial⟩, hw⟩
            · replace h := ifb_f hb151 h
              refine el_val (v := (Value.int .i64 x118)) (wanted_y rfl rfl rfl hb151) rfl rfl (run_pev (v := (Value.int .i64 x118)) rfl) ?_
              refine el_val (v := (Value.pointer (some ⟨b71, 4, none⟩))) (wanted_y rfl rfl rfl hb151) rfl rfl (run_fieldAddr tf26_4 (o := 0) rfl) ?_
              refine el_val (v := (Value.slice A18 n19 c20)) (wanted_y rfl rfl rfl hb151) rfl rfl (run_load1 (ad := ⟨b71, 4, none⟩) ta24 rfl (wd_cell 0 hw rfl rfl)) ?_
              refine el_val (v := (Value.int .i64 (i117 : Int))) (wanted_y rfl rfl rfl hb151) rfl rfl (run_pev (v := (Value.int .i64 (i117 : Int))) rfl) ?_
              obtain ⟨x152, hx153, h⟩ := bind_some h
              obtain ⟨b154, of155, es156, hA157, hc158, he159⟩ := sl_el hs21 hx153
              obtain ⟨A160, n161, c162, rfl, hs163⟩ := fS_mend_Choice.op he159
              refine el_val (v := (Value.pointer (some (eAdr A18 (((i117 : Int)).toNat * 1))))) (wanted_y rfl rfl rfl hb151) rfl rfl (run_idx te24 ts37 rfl hs21.len rfl hx153 hA157) ?_
              refine el_val (v := (Value.pointer (some (eAdr A18 (((i117 : Int)).toNat * 1))))) (wanted_y rfl rfl rfl hb151) rfl rfl (run_fieldEl tf37_0 rfl rfl rfl) ?_
              refine el_val (v := (Value.slice A160 n161 c162)) (wanted_y rfl rfl rfl hb151) rfl rfl (run_load1 (ad := (eAdr A18 (((i117 : Int)).toNat * 1))) ta35 rfl (hw.fz (hc158 0 _ rfl))) ?_
              refine el_val (v := (Value.int .i64 (x152.Ways.length : Int))) (wanted_y rfl rfl rfl hb151) rfl rfl (run_lenS te35 rfl hs163.len) ?_
              refine el_val (v := (Value.bool (decide (x118 > (x152.Ways.length : Int))))) (wanted_y rfl rfl rfl hb151) rfl rfl (run_pev (v := (Value.bool (decide (x118 > (x152.Ways.length : Int))))) rfl) ?_
              refine el_val (v := (Value.bool (decide (x118 > (x152.Ways.length : Int))))) (wanted_n rfl) rfl rfl (run_pick_f rfl hb151 rfl) ?_
              refine el_nil ?_
              obtain rfl := Option.some.inj h
              exact ⟨f82, (HP.le_refl _), ⟨rfl, rfl, rfl, rfl, rfl, trivial⟩, hw⟩
          · rintro ρ164 w165 ⟨f147, hle148, hl149, hw⟩
            first | refine ewp_live hl149 fun ρ166 => ?_ | rw [← hl149.eq]
            replace hs5 := hs5.mono hle148
            replace hs9 := hs9.mono hle148
            replace hs13 := hs13.mono hle148
            replace hs17 := hs17.mono hle148
            replace hs21 := hs21.mono hle148
            replace hs26 := hs26.mono hle148
            replace hc127 := fun j v hv => hcell_le hle148 (hc127 j v hv)
            refine ewp_cond s146 rfl (fun hb167 => ?_) (fun hb167 => ?_)
            · replace h := ifb_t hb167 h
              refine ewp_seq ?_
              refine ewp_region ?_
              refine el_val (v := (Value.int .i64 2)) (wanted_n rfl) rfl rfl (run_pev (v := (Value.int .i64 2)) rfl) ?_
              refine el_nil ?_
              refine ewp_ret ?_
              replace hw := hw.drop_0
              obtain rfl := Option.some.inj h
              refine ⟨_, rfl, fun hf => ⟨_, hf, fun hr => ?_⟩⟩
              subst hr
              exact ⟨_, res1 rfl, f147, (HP.le_trans (HP.le_trans hle77 hle83) hle148), rfl, hw⟩
            · replace h := ifb_f hb167 h
              refine ewp_skip ?_
              refine ewp_region ?_
              refine el_val (v := (Value.int .i64 (w64 ((i117 : Int) + 1)))) (wanted_n rfl) rfl rfl (run_pev (v := (Value.int .i64 (w64 ((i117 : Int) + 1)))) rfl) ?_
              refine el_val (v := (Value.int .i64 (w64 ((i117 : Int) + 1)))) (wanted_n rfl) rfl rfl (run_pev (v := (Value.int .i64 (w64 ((i117 : Int) + 1)))) rfl) ?_
              refine el_nil ?_
              obtain rfl := Option.some.inj h
              exact ⟨_, rfl, f147, (HP.le_trans hle83 hle148), ⟨rfl, rfl, rfl, (congrArg (Value.int .i64) (succ_w64 hs26.room hx)), trivial⟩, hw⟩
        · rintro s81 ρ168 w169 hfin170 ⟨f82, hle83, hl84, hw⟩
          first | refine ewp_live hl84 fun ρ171 => ?_ | rw [← hl84.eq]
          replace hs5 := hs5.mono hle83
          replace hs9 := hs9.mono hle83
          replace hs13 := hs13.mono hle83
          replace hs17 := hs17.mono hle83
          replace hs21 := hs21.mono hle83
          replace hs26 := hs26.mono hle83
          refine ewp_seq ?_
          refine ewp_region ?_
          refine el_val (v := (Value.bool (decide ((p22.length : Int) < (p22.length : Int))))) (wanted_n rfl) rfl rfl (run_pev (v := (Value.bool (decide ((p22.length : Int) < (p22.length : Int))))) rfl) ?_
          refine el_nil ?_
          refine ewp_seq ?_
          refine ewp_cond_f rfl (nlt_self _) ?_
          refine ewp_exit ?_
          exact ⟨s81, hfin170, f82, hle83, trivial, hw⟩
      · rintro ρ172 w173 ⟨s81, rfl, f82, hle83, hl84, hw⟩
        replace h := on_go h
        first | refine ewp_live hl84 fun ρ174 => ?_ | rw [← hl84.eq]
        replace hs5 := hs5.mono hle83
        replace hs9 := hs9.mono hle83
        replace hs13 := hs13.mono hle83
        replace hs17 := hs17.mono hle83
        replace hs21 := hs21.mono hle83
        replace hs26 := hs26.mono hle83
        refine ewp_seq ?_
        refine ewp_region ?_
        refine el_val (v := (Value.int .i64 0)) (wanted_n rfl) rfl rfl (run_pev (v := (Value.int .i64 0)) rfl) ?_
        refine el_nil ?_
        refine ewp_ret ?_
        replace hw := hw.drop_0
        obtain rfl := Option.some.inj h
        exact ⟨_, res1 rfl, f82, (HP.le_trans hle77 hle83), rfl, hw⟩
      · rintro ρ175 w176 ⟨x177, rfl, hq178⟩
        replace h := on_out h
        obtain rfl := Option.some.inj h
        exact hq178 rfl
      · exact fun _ _ _ h => h.elim
end Hk
