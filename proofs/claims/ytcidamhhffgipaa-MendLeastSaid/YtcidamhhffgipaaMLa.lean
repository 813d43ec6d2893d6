/- Functions of the program as plain functions, with proofs that each call returns what its plain function gives. Printed by a tool. -/
import Derived.Test.YtcidamhhffgipaaMLT
set_option linter.unusedVariables false
set_option linter.unusedSimpArgs false
set_option maxRecDepth 20000
set_option maxHeartbeats 2000000
namespace Hk
open Go Go.Proofs
def mend_within (p1 : Int) (p2 : Int) (p3 : Int) : Option (Bool) :=
  ((ifb (decide (p1 ≥ p2)) (some (decide (p1 ≤ p3))) (some false)).bind fun (s18 : Bool) => (some s18))
def mend_within.R (G : World) (f : HP) (L : List HProp) (p1 : Int) (p2 : Int) (p3 : Int) (r : Bool) : Value → World → Prop := fun v' w' =>
  ∃ (f' : HP), HP.le f f' ∧ v' = (Value.bool r) ∧ Wd G w' f' (L)
theorem mend_within.calls {G w : World} {f : HP} {L : List HProp}  {p1 : Int} {p2 : Int} {p3 : Int} (hw : Wd G w f (L))  {r : Bool} (h : mend_within p1 p2 p3 = some r) :
    Calls Try.prog 37 #[(Value.int .i64 p1), (Value.int .i64 p2), (Value.int .i64 p3)] w (Returns (mend_within.R G f L p1 p2 p3 r)) := by
  unfold mend_within at h
  refine ecalls 15 Try.func37 rfl rfl ?_
  refine ewp_seq ?_
  refine ewp_region ?_
  refine el_val (v := (Value.bool false)) (wanted_n rfl) rfl rfl (run_pev (v := (Value.bool false)) rfl) ?_
  refine el_nil ?_
  refine ewp_seq ?_
  obtain ⟨s18, hc22, h⟩ := bind_some h
  refine ewp_N (fun ρ' w' => ∃ (f19 : HP), HP.le f f19 ∧ Live ρ' [(6, (Value.bool s18))] ∧ Wd G w' f19 (L)) ?_ ?_
  · replace h := hc22
    refine ewp_region ?_
    refine el_val (v := (Value.int .i64 p1)) (wanted_n rfl) rfl rfl (run_pev (v := (Value.int .i64 p1)) rfl) ?_
    refine el_val (v := (Value.int .i64 p2)) (wanted_n rfl) rfl rfl (run_pev (v := (Value.int .i64 p2)) rfl) ?_
    refine el_val (v := (Value.bool (decide (p1 ≥ p2)))) (wanted_n rfl) rfl rfl (run_pev (v := (Value.bool (decide (p1 ≥ p2)))) rfl) ?_
    refine el_val (v := (Value.bool (decide (p1 ≥ p2)))) (wanted_n rfl) rfl rfl (run_pev (v := (Value.bool (decide (p1 ≥ p2)))) rfl) ?_
    rcases Bool.eq_false_or_eq_true (decide (p1 ≥ p2)) with hb23 | hb23
    · replace h := ifb_t hb23 h
      refine el_val (v := (Value.int .i64 p1)) (wanted_y rfl rfl rfl hb23) rfl rfl (run_pev (v := (Value.int .i64 p1)) rfl) ?_
      refine el_val (v := (Value.int .i64 p3)) (wanted_y rfl rfl rfl hb23) rfl rfl (run_pev (v := (Value.int .i64 p3)) rfl) ?_
      refine el_val (v := (Value.bool (decide (p1 ≤ p3)))) (wanted_y rfl rfl rfl hb23) rfl rfl (run_pev (v := (Value.bool (decide (p1 ≤ p3)))) rfl) ?_
      refine el_val (v := (Value.bool (decide (p1 ≤ p3)))) (wanted_n rfl) rfl rfl (run_pick_t rfl hb23 rfl) ?_
      refine el_val (v := (Value.bool (decide (p1 ≤ p3)))) (wanted_n rfl) rfl rfl (run_pev (v := (Value.bool (decide (p1 ≤ p3)))) rfl) ?_
      refine el_nil ?_
      obtain rfl := Option.some.inj h
      exact ⟨f, (HP.le_refl _), ⟨rfl, trivial⟩, hw⟩
    · replace h := ifb_f hb23 h
      refine el_pass (wanted_f rfl rfl rfl hb23) rfl rfl ?_
      refine el_pass (wanted_f rfl rfl rfl hb23) rfl rfl ?_
      refine el_pass (wanted_f rfl rfl rfl hb23) rfl rfl ?_
      refine el_val (v := (Value.bool false)) (wanted_n rfl) rfl rfl (run_pick_f rfl hb23 rfl) ?_
      refine el_val (v := (Value.bool false)) (wanted_n rfl) rfl rfl (run_pev (v := (Value.bool false)) rfl) ?_
      refine el_nil ?_
      obtain rfl := Option.some.inj h
      exact ⟨f, (HP.le_refl _), ⟨rfl, trivial⟩, hw⟩
  · rintro ρ24 w25 ⟨f19, hle20, hl21, hw⟩
    first | refine ewp_live hl21 fun ρ26 => ?_ | rw [← hl21.eq]
    refine ewp_ret ?_
    obtain rfl := Option.some.inj h
    exact ⟨_, res1 rfl, f19, hle20, rfl, hw⟩
def mend_checkArcs_b2 (p1 : S_mend_Graph) (i121 : Nat) (x122 : S_mend_Arc) (s76 : Unit) : Option (Ctl (Unit) (Ctl (Unit) (Int))) :=
  (((mend_within x122.From 0 (w64 ((p1.Ready.length : Int) - 1))).bind fun (x157 : Bool) => (ifb (!x157) (some true) ((mend_within x122.To 0 (w64 ((p1.Ready.length : Int) - 1))).bind fun (x163 : Bool) => (some (!x163))))).bind fun (s152 : Bool) => (ifb s152 (some (.out (.out 3))) (ifb (x122.From == x122.To) (some (.out (.out 1))) ((mend_within x122.Len (-28800) 28800).bind fun (x173 : Bool) => (ifb (!x173) (some (.out (.out 2))) (some (.go ())))))))
def mend_checkArcs (p1 : S_mend_Graph) (p22 : List S_mend_Arc) : Option (Int) :=
  ((forC (mend_checkArcs_b2 p1) p22 ()).bind fun c119 => Ctl.on c119 (fun s76 => (some 0)) (fun x188 => (some x188)))
def mend_checkArcs.R (G : World) (f : HP) (L : List HProp) (A2 : Option Addr) (n3 : Nat) (c4 : Nat) (A6 : Option Addr) (n7 : Nat) (c8 : Nat) (A10 : Option Addr) (n11 : Nat) (c12 : Nat) (A14 : Option Addr) (n15 : Nat) (c16 : Nat) (A18 : Option Addr) (n19 : Nat) (c20 : Nat) (A23 : Option Addr) (n24 : Nat) (c25 : Nat) (p1 : S_mend_Graph) (p22 : List S_mend_Arc) (r : Int) : Value → World → Prop := fun v' w' =>
  ∃ (f' : HP), HP.le f f' ∧ v' = (Value.int .i64 r) ∧ Wd G w' f' (L)
theorem mend_checkArcs.calls {G w : World} {f : HP} {L : List HProp} {A2 : Option Addr} {n3 : Nat} {c4 : Nat} {A6 : Option Addr} {n7 : Nat} {c8 : Nat} {A10 : Option Addr} {n11 : Nat} {c12 : Nat} {A14 : Option Addr} {n15 : Nat} {c16 : Nat} {A18 : Option Addr} {n19 : Nat} {c20 : Nat} {A23 : Option Addr} {n24 : Nat} {c25 : Nat} {p1 : S_mend_Graph} {p22 : List S_mend_Arc} (hw : Wd G w f (L)) (hs5 : SlF f (fInt .i64) A2 n3 c4 p1.Ready) (hs9 : SlF f (fInt .i64) A6 n7 c8 p1.Last) (hs13 : SlF f (fInt .i64) A10 n11 c12 p1.Due) (hs17 : SlF f fS_mend_Arc A14 n15 c16 p1.Arcs) (hs21 : SlF f fS_mend_Choice A18 n19 c20 p1.Choices) (hs26 : SlF f fS_mend_Arc A23 n24 c25 p22) {r : Int} (h : mend_checkArcs p1 p22 = some r) :
    Calls Try.prog 59 #[(Value.agg #[(Value.slice A2 n3 c4), (Value.slice A6 n7 c8), (Value.slice A10 n11 c12), (Value.slice A14 n15 c16), (Value.slice A18 n19 c20)]), (Value.slice A23 n24 c25)] w (Returns (mend_checkArcs.R G f L A2 n3 c4 A6 n7 c8 A10 n11 c12 A14 n15 c16 A18 n19 c20 A23 n24 c25 p1 p22 r)) := by
  unfold mend_checkArcs at h
  refine ecalls 44 Try.func59 rfl rfl ?_
  refine ewp_seq ?_
  refine ewp_region ?_
  refine el_exv (wanted_n rfl) rfl rfl (run_boxE (cs := [(Value.slice A2 n3 c4), (Value.slice A6 n7 c8), (Value.slice A10 n11 c12), (Value.slice A14 n15 c16), (Value.slice A18 n19 c20)]) rfl rfl hw) ?_
  rintro w75 _ ⟨b73, rfl, hw⟩
  refine el_val (v := (Value.int .i64 0)) (wanted_n rfl) rfl rfl (run_pev (v := (Value.int .i64 0)) rfl) ?_
  refine el_nil ?_
  refine ewp_seq ?_
  refine ewp_seq ?_
  refine ewp_region ?_
  refine el_val (v := (Value.slice A23 n24 c25)) (wanted_n rfl) rfl rfl (run_pev (v := (Value.slice A23 n24 c25)) rfl) ?_
  refine el_val (v := (Value.int .i64 (p22.length : Int))) (wanted_n rfl) rfl rfl (run_lenS te23 rfl hs26.len) ?_
  refine el_val (v := (Value.int .i64 0)) (wanted_n rfl) rfl rfl (run_pev (v := (Value.int .i64 0)) rfl) ?_
  refine el_nil ?_
  obtain ⟨c119, hc120, h⟩ := bind_some h
  refine ewp_M (fun ρ' w' => ∃ s76, c119 = .go s76 ∧ ∃ (f77 : HP), HP.le f f77 ∧ Live ρ' [] ∧ Wd G w' f77 (Blk b73 (.cells (List.toArray [(Value.slice A2 n3 c4), (Value.slice A6 n7 c8), (Value.slice A10 n11 c12), (Value.slice A14 n15 c16), (Value.slice A18 n19 c20)]) 26 (0, 0)) :: L)) (fun ρ' w' => ∃ x_, c119 = .out x_ ∧ (x_ = r → RetPost Try.prog Try.f59 (mend_checkArcs.R G f L A2 n3 c4 A6 n7 c8 A10 n11 c12 A14 n15 c16 A18 n19 c20 A23 n24 c25 p1 p22 r) .ret ρ' w')) noX ?_ ?_ ?_ ?_
  · refine ewp_block ?_
    refine ewp_forC (fun (i121 : Nat) (s76 : Unit) ρ' w' => ∃ (f77 : HP), HP.le f f77 ∧ Live ρ' [(2, (Value.pointer (some ⟨b73, 0, none⟩))), (7, (Value.slice A23 n24 c25)), (8, (Value.int .i64 (p22.length : Int))), (9, (Value.int .i64 (i121 : Int)))] ∧ Wd G w' f77 (Blk b73 (.cells (List.toArray [(Value.slice A2 n3 c4), (Value.slice A6 n7 c8), (Value.slice A10 n11 c12), (Value.slice A14 n15 c16), (Value.slice A18 n19 c20)]) 26 (0, 0)) :: L)) hc120 ⟨f, (HP.le_refl _), ⟨rfl, rfl, rfl, rfl, trivial⟩, hw⟩ ?_ ?_
    · rintro i121 x122 s76 ct125 ρ123 w124 hx h ⟨f77, hle78, hl79, hw⟩
      unfold mend_checkArcs_b2 at h
      first | refine ewp_live hl79 fun ρ126 => ?_ | rw [← hl79.eq]
      replace hs5 := hs5.mono hle78
      replace hs9 := hs9.mono hle78
      replace hs13 := hs13.mono hle78
      replace hs17 := hs17.mono hle78
      replace hs21 := hs21.mono hle78
      replace hs26 := hs26.mono hle78
      refine ewp_seq ?_
      refine ewp_region ?_
      refine el_val (v := (Value.bool (decide ((i121 : Int) < (p22.length : Int))))) (wanted_n rfl) rfl rfl (run_pev (v := (Value.bool (decide ((i121 : Int) < (p22.length : Int))))) rfl) ?_
      refine el_nil ?_
      refine ewp_seq ?_
      refine ewp_cond_t rfl (lt_len hx) ?_
      refine ewp_skip ?_
      refine ewp_seq ?_
      refine ewp_block ?_
      refine ewp_seq ?_
      refine ewp_region ?_
      obtain ⟨b127, of128, es129, hA130, hc131, he132⟩ := sl_el hs26 (idx_nat hx)
      obtain rfl := fS_mend_Arc.op he132
      refine el_val (v := (Value.pointer (some (eAdr A23 (((i121 : Int)).toNat * 3))))) (wanted_n rfl) rfl rfl (run_idx te23 ts34 rfl hs26.len rfl (idx_nat hx) hA130) ?_
      refine el_val (v := (Value.agg #[(Value.int .i64 x122.From), (Value.int .i64 x122.To), (Value.int .i64 x122.Len)])) (wanted_n rfl) rfl rfl (run_loadN (ad := (eAdr A23 (((i121 : Int)).toNat * 3))) (cs := [(Value.int .i64 x122.From), (Value.int .i64 x122.To), (Value.int .i64 x122.Len)]) ta34 ts34 rfl rfl (fz_cells hw hc131)) ?_
      refine el_exv (wanted_n rfl) rfl rfl (run_allocE (cs := [(Value.int .i64 0), (Value.int .i64 0), (Value.int .i64 0)]) tz34 rfl hw) ?_
      rintro w135 _ ⟨b133, rfl, hw⟩
      refine el_exu (wanted_n rfl) rfl (run_blkSetE (new := List.toArray [(Value.int .i64 x122.From), (Value.int .i64 x122.To), (Value.int .i64 x122.Len)]) hw rfl rfl ts34 rfl rfl rfl) ?_
      rintro w136 hw
      refine el_nil ?_
      refine ewp_block ?_
      refine ewp_seq ?_
      obtain ⟨s152, hc156, h⟩ := bind_some h
      refine ewp_N (fun ρ' w' => ∃ (f153 : HP), HP.le f77 f153 ∧ Live ρ' [(2, (Value.pointer (some ⟨b73, 0, none⟩))), (6, (Value.pointer (some ⟨b133, 0, none⟩))), (7, (Value.slice A23 n24 c25)), (8, (Value.int .i64 (p22.length : Int))), (9, (Value.int .i64 (i121 : Int))), (13, (Value.bool s152))] ∧ Wd G w' f153 (Blk b133 (.cells (List.toArray [(Value.int .i64 x122.From), (Value.int .i64 x122.To), (Value.int .i64 x122.Len)]) 34 (0, 0)) :: Blk b73 (.cells (List.toArray [(Value.slice A2 n3 c4), (Value.slice A6 n7 c8), (Value.slice A10 n11 c12), (Value.slice A14 n15 c16), (Value.slice A18 n19 c20)]) 26 (0, 0)) :: L)) ?_ ?_
      · replace h := hc156
        refine ewp_region ?_
        refine el_val (v := (Value.pointer (some ⟨b133, 0, none⟩))) (wanted_n rfl) rfl rfl (run_fieldAddr tf34_0 (o := 0) rfl) ?_
        refine el_val (v := (Value.int .i64 x122.From)) (wanted_n rfl) rfl rfl (run_load1 (ad := ⟨b133, 0, none⟩) ta3 rfl (wd_cell 0 hw rfl rfl)) ?_
        refine el_val (v := (Value.pointer (some ⟨b73, 0, none⟩))) (wanted_n rfl) rfl rfl (run_fieldAddr tf26_0 (o := 0) rfl) ?_
        refine el_val (v := (Value.slice A2 n3 c4)) (wanted_n rfl) rfl rfl (run_load1 (ad := ⟨b73, 0, none⟩) ta22 rfl (wd_cell 1 hw rfl rfl)) ?_
        refine el_val (v := (Value.int .i64 (p1.Ready.length : Int))) (wanted_n rfl) rfl rfl (run_lenS te22 rfl hs5.len) ?_
        refine el_val (v := (Value.int .i64 (w64 ((p1.Ready.length : Int) - 1)))) (wanted_n rfl) rfl rfl (run_pev (v := (Value.int .i64 (w64 ((p1.Ready.length : Int) - 1)))) rfl) ?_
        obtain ⟨x157, hx158, h⟩ := bind_some h
        refine el_call (wanted_n rfl) rfl rfl (run_call (vals := (List.toArray [(Value.int .i64 x122.From), (Value.int .i64 0), (Value.int .i64 (w64 ((p1.Ready.length : Int) - 1)))])) rfl cl37 rfl) (mend_within.calls hw  hx158) ?_
        rintro _ w161 ⟨f159, hle160, rfl, hw⟩
        replace hs5 := hs5.mono hle160
        replace hs9 := hs9.mono hle160
        replace hs13 := hs13.mono hle160
        replace hs17 := hs17.mono hle160
        replace hs21 := hs21.mono hle160
        replace hs26 := hs26.mono hle160
        replace hc131 := fun j v hv => hcell_le hle160 (hc131 j v hv)
        refine el_val (v := (Value.bool (!x157))) (wanted_n rfl) rfl rfl (run_pev (v := (Value.bool (!x157))) rfl) ?_
        refine el_val (v := (Value.bool (!x157))) (wanted_n rfl) rfl rfl (run_pev (v := (Value.bool (!x157))) rfl) ?_
        rcases Bool.eq_false_or_eq_true (!x157) with hb162 | hb162
        · replace h := ifb_t hb162 h
          refine el_pass (wanted_f rfl rfl rfl hb162) rfl rfl ?_
          refine el_pass (wanted_f rfl rfl rfl hb162) rfl rfl ?_
          refine el_pass (wanted_f rfl rfl rfl hb162) rfl rfl ?_
          refine el_pass (wanted_f rfl rfl rfl hb162) rfl rfl ?_
          refine el_pass (wanted_f rfl rfl rfl hb162) rfl rfl ?_
          refine el_pass (wanted_f rfl rfl rfl hb162) rfl rfl ?_
          refine el_pass (wanted_f rfl rfl rfl hb162) rfl rfl ?_
          refine el_pass (wanted_f rfl rfl rfl hb162) rfl rfl ?_
          refine el_val (v := (Value.bool true)) (wanted_n rfl) rfl rfl (run_pick_t rfl hb162 rfl) ?_
          refine el_val (v := (Value.bool true)) (wanted_n rfl) rfl rfl (run_pev (v := (Value.bool true)) rfl) ?_
          refine el_nil ?_
          obtain rfl := Option.some.inj h
          exact ⟨f159, hle160, ⟨rfl, rfl, rfl, rfl, rfl, rfl, trivial⟩, hw⟩
        · replace h := ifb_f hb162 h
          refine el_val (v := (Value.pointer (some ⟨b133, 1, none⟩))) (wanted_y rfl rfl rfl hb162) rfl rfl (run_fieldAddr tf34_1 (o := 0) rfl) ?_
          refine el_val (v := (Value.int .i64 x122.To)) (wanted_y rfl rfl rfl hb162) rfl rfl (run_load1 (ad := ⟨b133, 1, none⟩) ta3 rfl (wd_cell 0 hw rfl rfl)) ?_
          refine el_val (v := (Value.pointer (some ⟨b73, 0, none⟩))) (wanted_y rfl rfl rfl hb162) rfl rfl (run_fieldAddr tf26_0 (o := 0) rfl) ?_
          refine el_val (v := (Value.slice A2 n3 c4)) (wanted_y rfl rfl rfl hb162) rfl rfl (run_load1 (ad := ⟨b73, 0, none⟩) ta22 rfl (wd_cell 1 hw rfl rfl)) ?_
          refine el_val (v := (Value.int .i64 (p1.Ready.length : Int))) (wanted_y rfl rfl rfl hb162) rfl rfl (run_lenS te22 rfl hs5.len) ?_
          refine el_val (v := (Value.int .i64 (w64 ((p1.Ready.length : Int) - 1)))) (wanted_y rfl rfl rfl hb162) rfl rfl (run_pev (v := (Value.int .i64 (w64 ((p1.Ready.length : Int) - 1)))) rfl) ?_
          obtain ⟨x163, hx164, h⟩ := bind_some h
          refine el_call (wanted_y rfl rfl rfl hb162) rfl rfl (run_call (vals := (List.toArray [(Value.int .i64 x122.To), (Value.int .i64 0), (Value.int .i64 (w64 ((p1.Ready.length : Int) - 1)))])) rfl cl37 rfl) (mend_within.calls hw  hx164) ?_
          rintro _ w167 ⟨f165, hle166, rfl, hw⟩
          replace hs5 := hs5.mono hle166
          replace hs9 := hs9.mono hle166
          replace hs13 := hs13.mono hle166
          replace hs17 := hs17.mono hle166
          replace hs21 := hs21.mono hle166
          replace hs26 := hs26.mono hle166
          replace hc131 := fun j v hv => hcell_le hle166 (hc131 j v hv)
          refine el_val (v := (Value.bool (!x163))) (wanted_y rfl rfl rfl hb162) rfl rfl (run_pev (v := (Value.bool (!x163))) rfl) ?_
          refine el_val (v := (Value.bool (!x163))) (wanted_n rfl) rfl rfl (run_pick_f rfl hb162 rfl) ?_
          refine el_val (v := (Value.bool (!x163))) (wanted_n rfl) rfl rfl (run_pev (v := (Value.bool (!x163))) rfl) ?_
          refine el_nil ?_
          obtain rfl := Option.some.inj h
          exact ⟨f165, (HP.le_trans hle160 hle166), ⟨rfl, rfl, rfl, rfl, rfl, rfl, trivial⟩, hw⟩
      · rintro ρ168 w169 ⟨f153, hle154, hl155, hw⟩
        first | refine ewp_live hl155 fun ρ170 => ?_ | rw [← hl155.eq]
        replace hs5 := hs5.mono hle154
        replace hs9 := hs9.mono hle154
        replace hs13 := hs13.mono hle154
        replace hs17 := hs17.mono hle154
        replace hs21 := hs21.mono hle154
        replace hs26 := hs26.mono hle154
        replace hc131 := fun j v hv => hcell_le hle154 (hc131 j v hv)
        refine ewp_cond s152 rfl (fun hb171 => ?_) (fun hb171 => ?_)
        · replace h := ifb_t hb171 h
          refine ewp_seq ?_
          refine ewp_region ?_
          refine el_val (v := (Value.int .i64 3)) (wanted_n rfl) rfl rfl (run_pev (v := (Value.int .i64 3)) rfl) ?_
          refine el_nil ?_
          refine ewp_ret ?_
          replace hw := hw.drop_0
          replace hw := hw.drop_0
          obtain rfl := Option.some.inj h
          refine ⟨_, rfl, fun hf => ⟨_, hf, fun hr => ?_⟩⟩
          subst hr
          exact ⟨_, res1 rfl, f153, (HP.le_trans hle78 hle154), rfl, hw⟩
        · replace h := ifb_f hb171 h
          refine ewp_seq ?_
          refine ewp_region ?_
          refine el_val (v := (Value.pointer (some ⟨b133, 0, none⟩))) (wanted_n rfl) rfl rfl (run_fieldAddr tf34_0 (o := 0) rfl) ?_
          refine el_val (v := (Value.int .i64 x122.From)) (wanted_n rfl) rfl rfl (run_load1 (ad := ⟨b133, 0, none⟩) ta3 rfl (wd_cell 0 hw rfl rfl)) ?_
          refine el_val (v := (Value.pointer (some ⟨b133, 1, none⟩))) (wanted_n rfl) rfl rfl (run_fieldAddr tf34_1 (o := 0) rfl) ?_
          refine el_val (v := (Value.int .i64 x122.To)) (wanted_n rfl) rfl rfl (run_load1 (ad := ⟨b133, 1, none⟩) ta3 rfl (wd_cell 0 hw rfl rfl)) ?_
          refine el_val (v := (Value.bool (x122.From == x122.To))) (wanted_n rfl) rfl rfl (run_pev (v := (Value.bool (x122.From == x122.To))) rfl) ?_
          refine el_val (v := (Value.bool (x122.From == x122.To))) (wanted_n rfl) rfl rfl (run_pev (v := (Value.bool (x122.From == x122.To))) rfl) ?_
          refine el_nil ?_
          refine ewp_cond (x122.From == x122.To) rfl (fun hb172 => ?_) (fun hb172 => ?_)
          · replace h := ifb_t hb172 h
            refine ewp_seq ?_
            refine ewp_region ?_
            refine el_val (v := (Value.int .i64 1)) (wanted_n rfl) rfl rfl (run_pev (v := (Value.int .i64 1)) rfl) ?_
            refine el_nil ?_
            refine ewp_ret ?_
            replace hw := hw.drop_0
            replace hw := hw.drop_0
            obtain rfl := Option.some.inj h
            refine ⟨_, rfl, fun hf => ⟨_, hf, fun hr => ?_⟩⟩
            subst hr
            exact ⟨_, res1 rfl, f153, (HP.le_trans hle78 hle154), rfl, hw⟩
          · replace h := ifb_f hb172 h
            refine ewp_seq ?_
            refine ewp_region ?_
            refine el_val (v := (Value.pointer (some ⟨b133, 2, none⟩))) (wanted_n rfl) rfl rfl (run_fieldAddr tf34_2 (o := 0) rfl) ?_
            refine el_val (v := (Value.int .i64 x122.Len)) (wanted_n rfl) rfl rfl (run_load1 (ad := ⟨b133, 2, none⟩) ta3 rfl (wd_cell 0 hw rfl rfl)) ?_
            obtain ⟨x173, hx174, h⟩ := bind_some h
            refine el_call (wanted_n rfl) rfl rfl (run_call (vals := (List.toArray [(Value.int .i64 x122.Len), (Value.int .i64 (-28800)), (Value.int .i64 28800)])) rfl cl37 rfl) (mend_within.calls hw  hx174) ?_
            rintro _ w177 ⟨f175, hle176, rfl, hw⟩
            replace hs5 := hs5.mono hle176
            replace hs9 := hs9.mono hle176
            replace hs13 := hs13.mono hle176
            replace hs17 := hs17.mono hle176
            replace hs21 := hs21.mono hle176
            replace hs26 := hs26.mono hle176
            replace hc131 := fun j v hv => hcell_le hle176 (hc131 j v hv)
            refine el_val (v := (Value.bool (!x173))) (wanted_n rfl) rfl rfl (run_pev (v := (Value.bool (!x173))) rfl) ?_
            refine el_val (v := (Value.bool (!x173))) (wanted_n rfl) rfl rfl (run_pev (v := (Value.bool (!x173))) rfl) ?_
            refine el_nil ?_
            refine ewp_cond (!x173) rfl (fun hb178 => ?_) (fun hb178 => ?_)
            · replace h := ifb_t hb178 h
              refine ewp_seq ?_
              refine ewp_region ?_
              refine el_val (v := (Value.int .i64 2)) (wanted_n rfl) rfl rfl (run_pev (v := (Value.int .i64 2)) rfl) ?_
              refine el_nil ?_
              refine ewp_ret ?_
              replace hw := hw.drop_0
              replace hw := hw.drop_0
              obtain rfl := Option.some.inj h
              refine ⟨_, rfl, fun hf => ⟨_, hf, fun hr => ?_⟩⟩
              subst hr
              exact ⟨_, res1 rfl, f175, (HP.le_trans (HP.le_trans hle78 hle154) hle176), rfl, hw⟩
            · replace h := ifb_f hb178 h
              refine ewp_skip ?_
              refine ewp_region ?_
              refine el_val (v := (Value.int .i64 (w64 ((i121 : Int) + 1)))) (wanted_n rfl) rfl rfl (run_pev (v := (Value.int .i64 (w64 ((i121 : Int) + 1)))) rfl) ?_
              refine el_val (v := (Value.int .i64 (w64 ((i121 : Int) + 1)))) (wanted_n rfl) rfl rfl (run_pev (v := (Value.int .i64 (w64 ((i121 : Int) + 1)))) rfl) ?_
              refine el_nil ?_
              replace hw := hw.drop_0
              obtain rfl := Option.some.inj h
              exact ⟨_, rfl, f175, (HP.le_trans (HP.le_trans hle78 hle154) hle176), ⟨rfl, rfl, rfl, (congrArg (Value.int .i64) (succ_w64 hs26.room hx)), trivial⟩, hw⟩
    · rintro s76 ρ179 w180 hfin181 ⟨f77, hle78, hl79, hw⟩
      first | refine ewp_live hl79 fun ρ182 => ?_ | rw [← hl79.eq]
      replace hs5 := hs5.mono hle78
      replace hs9 := hs9.mono hle78
      replace hs13 := hs13.mono hle78
      replace hs17 := hs17.mono hle78
      replace hs21 := hs21.mono hle78
      replace hs26 := hs26.mono hle78
      refine ewp_seq ?_
      refine ewp_region ?_
      refine el_val (v := (Value.bool (decide ((p22.length : Int) < (p22.length : Int))))) (wanted_n rfl) rfl rfl (run_pev (v := (Value.bool (decide ((p22.length : Int) < (p22.length : Int))))) rfl) ?_
      refine el_nil ?_
      refine ewp_seq ?_
      refine ewp_cond_f rfl (nlt_self _) ?_
      refine ewp_exit ?_
      exact ⟨s76, hfin181, f77, hle78, trivial, hw⟩
  · rintro ρ183 w184 ⟨s76, rfl, f77, hle78, hl79, hw⟩
    replace h := on_go h
    first | refine ewp_live hl79 fun ρ185 => ?_ | rw [← hl79.eq]
    replace hs5 := hs5.mono hle78
    replace hs9 := hs9.mono hle78
    replace hs13 := hs13.mono hle78
    replace hs17 := hs17.mono hle78
    replace hs21 := hs21.mono hle78
    replace hs26 := hs26.mono hle78
    refine ewp_seq ?_
    refine ewp_region ?_
    refine el_val (v := (Value.int .i64 0)) (wanted_n rfl) rfl rfl (run_pev (v := (Value.int .i64 0)) rfl) ?_
    refine el_nil ?_
    refine ewp_ret ?_
    replace hw := hw.drop_0
    obtain rfl := Option.some.inj h
    exact ⟨_, res1 rfl, f77, hle78, rfl, hw⟩
  · rintro ρ186 w187 ⟨x188, rfl, hq189⟩
    replace h := on_out h
    obtain rfl := Option.some.inj h
    exact hq189 rfl
  · exact fun _ _ _ h => h.elim
def mend_CheckGraph_b7 (p1 : S_mend_Graph) (i443 : Nat) (x444 : List S_mend_Arc) (s418 : Unit) : Option (Ctl (Unit) (Ctl (Unit) (Int))) :=
  (ifb (decide ((x444.length : Int) > 4)) (some (.out (.out 4))) ((mend_checkArcs p1 x444).bind fun (x460 : Int) => (ifb (x460 != 0) (some (.out (.out x460))) (some (.go ())))))
def mend_CheckGraph_b6 (p1 : S_mend_Graph) (i397 : Nat) (x398 : S_mend_Choice) (s351 : Unit) : Option (Ctl (Unit) (Ctl (Unit) (Int))) :=
  (ifb (decide ((x398.Ways.length : Int) > 3)) (some (.out (.out 4))) ((forC (mend_CheckGraph_b7 p1) x398.Ways ()).bind fun c441 => Ctl.on c441 (fun s418 => (some (.go ()))) (fun x475 => (some (.out (.out x475))))))
def mend_CheckGraph_b4 (p1 : S_mend_Graph) (i241 : Nat) (x242 : Int) (s185 : Unit) : Option (Ctl (Unit) (Ctl (Unit) (Int))) :=
  (((mend_within x242 0 28800).bind fun (x301 : Bool) => (ifb (!x301) (some true) ((idx p1.Last (i241 : Int)).bind fun (x307 : Int) => ((mend_within x307 (-1) 28800).bind fun (x315 : Bool) => (ifb (!x315) (some true) ((idx p1.Due (i241 : Int)).bind fun (x321 : Int) => ((mend_within x321 (-1) 28800).bind fun (x329 : Bool) => (some (!x329))))))))).bind fun (s290 : Bool) => (ifb s290 (some (.out (.out 2))) (some (.go ()))))
def mend_CheckGraph (p1 : S_mend_Graph) : Option (Int) :=
  ((ifb (decide ((p1.Ready.length : Int) > 24)) (some true) (ifb (decide ((p1.Arcs.length : Int) > 250)) (some true) (some (decide ((p1.Choices.length : Int) > 300))))).bind fun (s159 : Bool) => (ifb s159 (some 4) ((ifb ((p1.Last.length : Int) != (p1.Ready.length : Int)) (some true) (some ((p1.Due.length : Int) != (p1.Ready.length : Int)))).bind fun (s175 : Bool) => (ifb s175 (some 1) ((forC (mend_CheckGraph_b4 p1) p1.Ready ()).bind fun c239 => Ctl.on c239 (fun s185 => ((mend_checkArcs p1 p1.Arcs).bind fun (x345 : Int) => (ifb (x345 != 0) (some x345) ((forC (mend_CheckGraph_b6 p1) p1.Choices ()).bind fun c395 => Ctl.on c395 (fun s351 => (some 0)) (fun x486 => (some x486)))))) (fun x490 => (some x490)))))))
def mend_CheckGraph.R (G : World) (f : HP) (L : List HProp) (A2 : Option Addr) (n3 : Nat) (c4 : Nat) (A6 : Option Addr) (n7 : Nat) (c8 : Nat) (A10 : Option Addr) (n11 : Nat) (c12 : Nat) (A14 : Option Addr) (n15 : Nat) (c16 : Nat) (A18 : Option Addr) (n19 : Nat) (c20 : Nat) (p1 : S_mend_Graph) (r : Int) : Value → World → Prop := fun v' w' =>
  ∃ (f' : HP), HP.le f f' ∧ v' = (Value.int .i64 r) ∧ Wd G w' f' (L)
theorem mend_CheckGraph.calls {G w : World} {f : HP} {L : List HProp} {A2 : Option Addr} {n3 : Nat} {c4 : Nat} {A6 : Option Addr} {n7 : Nat} {c8 : Nat} {A10 : Option Addr} {n11 : Nat} {c12 : Nat} {A14 : Option Addr} {n15 : Nat} {c16 : Nat} {A18 : Option Addr} {n19 : Nat} {c20 : Nat} {p1 : S_mend_Graph} (hw : Wd G w f (L)) (hs5 : SlF f (fInt .i64) A2 n3 c4 p1.Ready) (hs9 : SlF f (fInt .i64) A6 n7 c8 p1.Last) (hs13 : SlF f (fInt .i64) A10 n11 c12 p1.Due) (hs17 : SlF f fS_mend_Arc A14 n15 c16 p1.Arcs) (hs21 : SlF f fS_mend_Choice A18 n19 c20 p1.Choices) {r : Int} (h : mend_CheckGraph p1 = some r) :
    Calls Try.prog 36 #[(Value.agg #[(Value.slice A2 n3 c4), (Value.slice A6 n7 c8), (Value.slice A10 n11 c12), (Value.slice A14 n15 c16), (Value.slice A18 n19 c20)])] w (Returns (mend_CheckGraph.R G f L A2 n3 c4 A6 n7 c8 A10 n11 c12 A14 n15 c16 A18 n19 c20 p1 r)) := by
  unfold mend_CheckGraph at h
  refine ecalls 112 Try.func36 rfl rfl ?_
  refine ewp_seq ?_
  refine ewp_region ?_
  refine el_exv (wanted_n rfl) rfl rfl (run_boxE (cs := [(Value.slice A2 n3 c4), (Value.slice A6 n7 c8), (Value.slice A10 n11 c12), (Value.slice A14 n15 c16), (Value.slice A18 n19 c20)]) rfl rfl hw) ?_
  rintro w152 _ ⟨b150, rfl, hw⟩
  refine el_val (v := (Value.int .i64 0)) (wanted_n rfl) rfl rfl (run_pev (v := (Value.int .i64 0)) rfl) ?_
  refine el_nil ?_
  refine ewp_seq ?_
  refine ewp_block ?_
  refine ewp_seq ?_
  obtain ⟨s159, hc163, h⟩ := bind_some h
  refine ewp_N (fun ρ' w' => ∃ (f160 : HP), HP.le f f160 ∧ Live ρ' [(1, (Value.pointer (some ⟨b150, 0, none⟩))), (10, (Value.bool s159))] ∧ Wd G w' f160 (Blk b150 (.cells (List.toArray [(Value.slice A2 n3 c4), (Value.slice A6 n7 c8), (Value.slice A10 n11 c12), (Value.slice A14 n15 c16), (Value.slice A18 n19 c20)]) 26 (0, 0)) :: L)) ?_ ?_
  · replace h := hc163
    refine ewp_region ?_
    refine el_val (v := (Value.pointer (some ⟨b150, 0, none⟩))) (wanted_n rfl) rfl rfl (run_fieldAddr tf26_0 (o := 0) rfl) ?_
    refine el_val (v := (Value.slice A2 n3 c4)) (wanted_n rfl) rfl rfl (run_load1 (ad := ⟨b150, 0, none⟩) ta22 rfl (wd_cell 0 hw rfl rfl)) ?_
    refine el_val (v := (Value.int .i64 (p1.Ready.length : Int))) (wanted_n rfl) rfl rfl (run_lenS te22 rfl hs5.len) ?_
    refine el_val (v := (Value.bool (decide ((p1.Ready.length : Int) > 24)))) (wanted_n rfl) rfl rfl (run_pev (v := (Value.bool (decide ((p1.Ready.length : Int) > 24)))) rfl) ?_
    refine el_val (v := (Value.bool (decide ((p1.Ready.length : Int) > 24)))) (wanted_n rfl) rfl rfl (run_pev (v := (Value.bool (decide ((p1.Ready.length : Int) > 24)))) rfl) ?_
    rcases Bool.eq_false_or_eq_true (decide ((p1.Ready.length : Int) > 24)) with hb164 | hb164
    · replace h := ifb_t hb164 h
      refine el_pass (wanted_f rfl rfl rfl hb164) rfl rfl ?_
      refine el_pass (wanted_f rfl rfl rfl hb164) rfl rfl ?_
      refine el_pass (wanted_f rfl rfl rfl hb164) rfl rfl ?_
      refine el_pass (wanted_f rfl rfl rfl hb164) rfl rfl ?_
      refine el_val (v := (Value.bool true)) (wanted_n rfl) rfl rfl (run_pick_t rfl hb164 rfl) ?_
      refine el_val (v := (Value.bool true)) (wanted_n rfl) rfl rfl (run_pev (v := (Value.bool true)) rfl) ?_
      refine el_pass (wanted_f rfl rfl rfl rfl) rfl rfl ?_
      refine el_pass (wanted_f rfl rfl rfl rfl) rfl rfl ?_
      refine el_pass (wanted_f rfl rfl rfl rfl) rfl rfl ?_
      refine el_pass (wanted_f rfl rfl rfl rfl) rfl rfl ?_
      refine el_val (v := (Value.bool true)) (wanted_n rfl) rfl rfl (run_pick_t rfl rfl rfl) ?_
      refine el_val (v := (Value.bool true)) (wanted_n rfl) rfl rfl (run_pev (v := (Value.bool true)) rfl) ?_
      refine el_nil ?_
      obtain rfl := Option.some.inj h
      exact ⟨f, (HP.le_refl _), ⟨rfl, rfl, trivial⟩, hw⟩
    · replace h := ifb_f hb164 h
      refine el_val (v := (Value.pointer (some ⟨b150, 3, none⟩))) (wanted_y rfl rfl rfl hb164) rfl rfl (run_fieldAddr tf26_3 (o := 0) rfl) ?_
      refine el_val (v := (Value.slice A14 n15 c16)) (wanted_y rfl rfl rfl hb164) rfl rfl (run_load1 (ad := ⟨b150, 3, none⟩) ta23 rfl (wd_cell 0 hw rfl rfl)) ?_
      refine el_val (v := (Value.int .i64 (p1.Arcs.length : Int))) (wanted_y rfl rfl rfl hb164) rfl rfl (run_lenS te23 rfl hs17.len) ?_
      refine el_val (v := (Value.bool (decide ((p1.Arcs.length : Int) > 250)))) (wanted_y rfl rfl rfl hb164) rfl rfl (run_pev (v := (Value.bool (decide ((p1.Arcs.length : Int) > 250)))) rfl) ?_
      refine el_val (v := (Value.bool (decide ((p1.Arcs.length : Int) > 250)))) (wanted_n rfl) rfl rfl (run_pick_f rfl hb164 rfl) ?_
      refine el_val (v := (Value.bool (decide ((p1.Arcs.length : Int) > 250)))) (wanted_n rfl) rfl rfl (run_pev (v := (Value.bool (decide ((p1.Arcs.length : Int) > 250)))) rfl) ?_
      rcases Bool.eq_false_or_eq_true (decide ((p1.Arcs.length : Int) > 250)) with hb165 | hb165
      · replace h := ifb_t hb165 h
        refine el_pass (wanted_f rfl rfl rfl hb165) rfl rfl ?_
        refine el_pass (wanted_f rfl rfl rfl hb165) rfl rfl ?_
        refine el_pass (wanted_f rfl rfl rfl hb165) rfl rfl ?_
        refine el_pass (wanted_f rfl rfl rfl hb165) rfl rfl ?_
        refine el_val (v := (Value.bool true)) (wanted_n rfl) rfl rfl (run_pick_t rfl hb165 rfl) ?_
        refine el_val (v := (Value.bool true)) (wanted_n rfl) rfl rfl (run_pev (v := (Value.bool true)) rfl) ?_
        refine el_nil ?_
        obtain rfl := Option.some.inj h
        exact ⟨f, (HP.le_refl _), ⟨rfl, rfl, trivial⟩, hw⟩
      · replace h := ifb_f hb165 h
        refine el_val (v := (Value.pointer (some ⟨b150, 4, none⟩))) (wanted_y rfl rfl rfl hb165) rfl rfl (run_fieldAddr tf26_4 (o := 0) rfl) ?_
        refine el_val (v := (Value.slice A18 n19 c20)) (wanted_y rfl rfl rfl hb165) rfl rfl (run_load1 (ad := ⟨b150, 4, none⟩) ta24 rfl (wd_cell 0 hw rfl rfl)) ?_
        refine el_val (v := (Value.int .i64 (p1.Choices.length : Int))) (wanted_y rfl rfl rfl hb165) rfl rfl (run_lenS te24 rfl hs21.len) ?_
        refine el_val (v := (Value.bool (decide ((p1.Choices.length : Int) > 300)))) (wanted_y rfl rfl rfl hb165) rfl rfl (run_pev (v := (Value.bool (decide ((p1.Choices.length : Int) > 300)))) rfl) ?_
        refine el_val (v := (Value.bool (decide ((p1.Choices.length : Int) > 300)))) (wanted_n rfl) rfl rfl (run_pick_f rfl hb165 rfl) ?_
        refine el_val (v := (Value.bool (decide ((p1.Choices.length : Int) > 300)))) (wanted_n rfl) rfl rfl (run_pev (v := (Value.bool (decide ((p1.Choices.length : Int) > 300)))) rfl) ?_
        refine el_nil ?_
        obtain rfl := Option.some.inj h
        exact ⟨f, (HP.le_refl _), ⟨rfl, rfl, trivial⟩, hw⟩
  · rintro ρ166 w167 ⟨f160, hle161, hl162, hw⟩
    first | refine ewp_live hl162 fun ρ168 => ?_ | rw [← hl162.eq]
    replace hs5 := hs5.mono hle161
    replace hs9 := hs9.mono hle161
    replace hs13 := hs13.mono hle161
    replace hs17 := hs17.mono hle161
    replace hs21 := hs21.mono hle161
    refine ewp_cond s159 rfl (fun hb169 => ?_) (fun hb169 => ?_)
    · replace h := ifb_t hb169 h
      refine ewp_seq ?_
      refine ewp_region ?_
      refine el_val (v := (Value.int .i64 4)) (wanted_n rfl) rfl rfl (run_pev (v := (Value.int .i64 4)) rfl) ?_
      refine el_nil ?_
      refine ewp_ret ?_
      replace hw := hw.drop_0
      obtain rfl := Option.some.inj h
      exact ⟨_, res1 rfl, f160, hle161, rfl, hw⟩
    · replace h := ifb_f hb169 h
      refine ewp_seq ?_
      obtain ⟨s175, hc179, h⟩ := bind_some h
      refine ewp_N (fun ρ' w' => ∃ (f176 : HP), HP.le f160 f176 ∧ Live ρ' [(1, (Value.pointer (some ⟨b150, 0, none⟩))), (27, (Value.bool s175))] ∧ Wd G w' f176 (Blk b150 (.cells (List.toArray [(Value.slice A2 n3 c4), (Value.slice A6 n7 c8), (Value.slice A10 n11 c12), (Value.slice A14 n15 c16), (Value.slice A18 n19 c20)]) 26 (0, 0)) :: L)) ?_ ?_
      · replace h := hc179
        refine ewp_region ?_
        refine el_val (v := (Value.pointer (some ⟨b150, 1, none⟩))) (wanted_n rfl) rfl rfl (run_fieldAddr tf26_1 (o := 0) rfl) ?_
        refine el_val (v := (Value.slice A6 n7 c8)) (wanted_n rfl) rfl rfl (run_load1 (ad := ⟨b150, 1, none⟩) ta22 rfl (wd_cell 0 hw rfl rfl)) ?_
        refine el_val (v := (Value.int .i64 (p1.Last.length : Int))) (wanted_n rfl) rfl rfl (run_lenS te22 rfl hs9.len) ?_
        refine el_val (v := (Value.pointer (some ⟨b150, 0, none⟩))) (wanted_n rfl) rfl rfl (run_fieldAddr tf26_0 (o := 0) rfl) ?_
        refine el_val (v := (Value.slice A2 n3 c4)) (wanted_n rfl) rfl rfl (run_load1 (ad := ⟨b150, 0, none⟩) ta22 rfl (wd_cell 0 hw rfl rfl)) ?_
        refine el_val (v := (Value.int .i64 (p1.Ready.length : Int))) (wanted_n rfl) rfl rfl (run_lenS te22 rfl hs5.len) ?_
        refine el_val (v := (Value.bool ((p1.Last.length : Int) != (p1.Ready.length : Int)))) (wanted_n rfl) rfl rfl (run_pev (v := (Value.bool ((p1.Last.length : Int) != (p1.Ready.length : Int)))) rfl) ?_
        refine el_val (v := (Value.bool ((p1.Last.length : Int) != (p1.Ready.length : Int)))) (wanted_n rfl) rfl rfl (run_pev (v := (Value.bool ((p1.Last.length : Int) != (p1.Ready.length : Int)))) rfl) ?_
        rcases Bool.eq_false_or_eq_true ((p1.Last.length : Int) != (p1.Ready.length : Int)) with hb180 | hb180
        · replace h := ifb_t hb180 h
          refine el_pass (wanted_f rfl rfl rfl hb180) rfl rfl ?_
          refine el_pass (wanted_f rfl rfl rfl hb180) rfl rfl ?_
          refine el_pass (wanted_f rfl rfl rfl hb180) rfl rfl ?_
          refine el_pass (wanted_f rfl rfl rfl hb180) rfl rfl ?_
          refine el_pass (wanted_f rfl rfl rfl hb180) rfl rfl ?_
          refine el_pass (wanted_f rfl rfl rfl hb180) rfl rfl ?_
          refine el_pass (wanted_f rfl rfl rfl hb180) rfl rfl ?_
          refine el_val (v := (Value.bool true)) (wanted_n rfl) rfl rfl (run_pick_t rfl hb180 rfl) ?_
          refine el_val (v := (Value.bool true)) (wanted_n rfl) rfl rfl (run_pev (v := (Value.bool true)) rfl) ?_
          refine el_nil ?_
          obtain rfl := Option.some.inj h
          exact ⟨f160, (HP.le_refl _), ⟨rfl, rfl, trivial⟩, hw⟩
        · replace h := ifb_f hb180 h
          refine el_val (v := (Value.pointer (some ⟨b150, 2, none⟩))) (wanted_y rfl rfl rfl hb180) rfl rfl (run_fieldAddr tf26_2 (o := 0) rfl) ?_
          refine el_val (v := (Value.slice A10 n11 c12)) (wanted_y rfl rfl rfl hb180) rfl rfl (run_load1 (ad := ⟨b150, 2, none⟩) ta22 rfl (wd_cell 0 hw rfl rfl)) ?_
          refine el_val (v := (Value.int .i64 (p1.Due.length : Int))) (wanted_y rfl rfl rfl hb180) rfl rfl (run_lenS te22 rfl hs13.len) ?_
          refine el_val (v := (Value.pointer (some ⟨b150, 0, none⟩))) (wanted_y rfl rfl rfl hb180) rfl rfl (run_fieldAddr tf26_0 (o := 0) rfl) ?_
          refine el_val (v := (Value.slice A2 n3 c4)) (wanted_y rfl rfl rfl hb180) rfl rfl (run_load1 (ad := ⟨b150, 0, none⟩) ta22 rfl (wd_cell 0 hw rfl rfl)) ?_
          refine el_val (v := (Value.int .i64 (p1.Ready.length : Int))) (wanted_y rfl rfl rfl hb180) rfl rfl (run_lenS te22 rfl hs5.len) ?_
          refine el_val (v := (Value.bool ((p1.Due.length : Int) != (p1.Ready.length : Int)))) (wanted_y rfl rfl rfl hb180) rfl rfl (run_pev (v := (Value.bool ((p1.Due.length : Int) != (p1.Ready.length : Int)))) rfl) ?_
          refine el_val (v := (Value.bool ((p1.Due.length : Int) != (p1.Ready.length : Int)))) (wanted_n rfl) rfl rfl (run_pick_f rfl hb180 rfl) ?_
          refine el_val (v := (Value.bool ((p1.Due.length : Int) != (p1.Ready.length : Int)))) (wanted_n rfl) rfl rfl (run_pev (v := (Value.bool ((p1.Due.length : Int) != (p1.Ready.length : Int)))) rfl) ?_
          refine el_nil ?_
          obtain rfl := Option.some.inj h
          exact ⟨f160, (HP.le_refl _), ⟨rfl, rfl, trivial⟩, hw⟩
      · rintro ρ181 w182 ⟨f176, hle177, hl178, hw⟩
        first | refine ewp_live hl178 fun ρ183 => ?_ | rw [← hl178.eq]
        replace hs5 := hs5.mono hle177
        replace hs9 := hs9.mono hle177
        replace hs13 := hs13.mono hle177
        replace hs17 := hs17.mono hle177
        replace hs21 := hs21.mono hle177
        refine ewp_cond s175 rfl (fun hb184 => ?_) (fun hb184 => ?_)
        · replace h := ifb_t hb184 h
          refine ewp_seq ?_
          refine ewp_region ?_
          refine el_val (v := (Value.int .i64 1)) (wanted_n rfl) rfl rfl (run_pev (v := (Value.int .i64 1)) rfl) ?_
          refine el_nil ?_
          refine ewp_ret ?_
          replace hw := hw.drop_0
          obtain rfl := Option.some.inj h
          exact ⟨_, res1 rfl, f176, (HP.le_trans hle161 hle177), rfl, hw⟩
        · replace h := ifb_f hb184 h
          refine ewp_skip ?_
          refine ewp_seq ?_
          refine ewp_seq ?_
          refine ewp_region ?_
          refine el_val (v := (Value.pointer (some ⟨b150, 0, none⟩))) (wanted_n rfl) rfl rfl (run_fieldAddr tf26_0 (o := 0) rfl) ?_
          refine el_val (v := (Value.slice A2 n3 c4)) (wanted_n rfl) rfl rfl (run_load1 (ad := ⟨b150, 0, none⟩) ta22 rfl (wd_cell 0 hw rfl rfl)) ?_
          refine el_val (v := (Value.int .i64 (p1.Ready.length : Int))) (wanted_n rfl) rfl rfl (run_lenS te22 rfl hs5.len) ?_
          refine el_val (v := (Value.int .i64 0)) (wanted_n rfl) rfl rfl (run_pev (v := (Value.int .i64 0)) rfl) ?_
          refine el_nil ?_
          obtain ⟨c239, hc240, h⟩ := bind_some h
          refine ewp_M (fun ρ' w' => ∃ s185, c239 = .go s185 ∧ ∃ (f186 : HP), HP.le f176 f186 ∧ Live ρ' [(1, (Value.pointer (some ⟨b150, 0, none⟩)))] ∧ Wd G w' f186 (Blk b150 (.cells (List.toArray [(Value.slice A2 n3 c4), (Value.slice A6 n7 c8), (Value.slice A10 n11 c12), (Value.slice A14 n15 c16), (Value.slice A18 n19 c20)]) 26 (0, 0)) :: L)) (fun ρ' w' => ∃ x_, c239 = .out x_ ∧ (x_ = r → RetPost Try.prog Try.f36 (mend_CheckGraph.R G f L A2 n3 c4 A6 n7 c8 A10 n11 c12 A14 n15 c16 A18 n19 c20 p1 r) .ret ρ' w')) noX ?_ ?_ ?_ ?_
          · refine ewp_block ?_
            refine ewp_forC (fun (i241 : Nat) (s185 : Unit) ρ' w' => ∃ (f186 : HP), HP.le f176 f186 ∧ Live ρ' [(1, (Value.pointer (some ⟨b150, 0, none⟩))), (46, (Value.int .i64 (p1.Ready.length : Int))), (47, (Value.int .i64 (i241 : Int)))] ∧ Wd G w' f186 (Blk b150 (.cells (List.toArray [(Value.slice A2 n3 c4), (Value.slice A6 n7 c8), (Value.slice A10 n11 c12), (Value.slice A14 n15 c16), (Value.slice A18 n19 c20)]) 26 (0, 0)) :: L)) hc240 ⟨f176, (HP.le_refl _), ⟨rfl, rfl, rfl, trivial⟩, hw⟩ ?_ ?_
            · rintro i241 x242 s185 ct245 ρ243 w244 hx h ⟨f186, hle187, hl188, hw⟩
              unfold mend_CheckGraph_b4 at h
              first | refine ewp_live hl188 fun ρ246 => ?_ | rw [← hl188.eq]
              replace hs5 := hs5.mono hle187
              replace hs9 := hs9.mono hle187
              replace hs13 := hs13.mono hle187
              replace hs17 := hs17.mono hle187
              replace hs21 := hs21.mono hle187
              refine ewp_seq ?_
              refine ewp_region ?_
              refine el_val (v := (Value.bool (decide ((i241 : Int) < (p1.Ready.length : Int))))) (wanted_n rfl) rfl rfl (run_pev (v := (Value.bool (decide ((i241 : Int) < (p1.Ready.length : Int))))) rfl) ?_
              refine el_nil ?_
              refine ewp_seq ?_
              refine ewp_cond_t rfl (lt_len hx) ?_
              refine ewp_skip ?_
              refine ewp_seq ?_
              refine ewp_block ?_
              refine ewp_seq ?_
              refine ewp_region ?_
              refine el_val (v := (Value.int .i64 (i241 : Int))) (wanted_n rfl) rfl rfl (run_pev (v := (Value.int .i64 (i241 : Int))) rfl) ?_
              refine el_val (v := (Value.int .i64 (i241 : Int))) (wanted_n rfl) rfl rfl (run_pev (v := (Value.int .i64 (i241 : Int))) rfl) ?_
              refine el_nil ?_
              refine ewp_seq ?_
              obtain ⟨s290, hc294, h⟩ := bind_some h
              refine ewp_N (fun ρ' w' => ∃ (f291 : HP), HP.le f186 f291 ∧ Live ρ' [(1, (Value.pointer (some ⟨b150, 0, none⟩))), (46, (Value.int .i64 (p1.Ready.length : Int))), (47, (Value.int .i64 (i241 : Int))), (74, (Value.bool s290))] ∧ Wd G w' f291 (Blk b150 (.cells (List.toArray [(Value.slice A2 n3 c4), (Value.slice A6 n7 c8), (Value.slice A10 n11 c12), (Value.slice A14 n15 c16), (Value.slice A18 n19 c20)]) 26 (0, 0)) :: L)) ?_ ?_
              · replace h := hc294
                refine ewp_region ?_
                refine el_val (v := (Value.pointer (some ⟨b150, 0, none⟩))) (wanted_n rfl) rfl rfl (run_fieldAddr tf26_0 (o := 0) rfl) ?_
                refine el_val (v := (Value.slice A2 n3 c4)) (wanted_n rfl) rfl rfl (run_load1 (ad := ⟨b150, 0, none⟩) ta22 rfl (wd_cell 0 hw rfl rfl)) ?_
                refine el_val (v := (Value.int .i64 (i241 : Int))) (wanted_n rfl) rfl rfl (run_pev (v := (Value.int .i64 (i241 : Int))) rfl) ?_
                obtain ⟨b295, of296, es297, hA298, hc299, he300⟩ := sl_el hs5 (idx_nat hx)
                obtain rfl : es297 = _ := he300
                refine el_val (v := (Value.pointer (some (eAdr A2 (((i241 : Int)).toNat * 1))))) (wanted_n rfl) rfl rfl (run_idx te22 ts3 rfl hs5.len rfl (idx_nat hx) hA298) ?_
                refine el_val (v := (Value.int .i64 x242)) (wanted_n rfl) rfl rfl (run_load1 (ad := (eAdr A2 (((i241 : Int)).toNat * 1))) ta3 rfl (hw.fz (hc299 0 _ rfl))) ?_
                obtain ⟨x301, hx302, h⟩ := bind_some h
                refine el_call (wanted_n rfl) rfl rfl (run_call (vals := (List.toArray [(Value.int .i64 x242), (Value.int .i64 0), (Value.int .i64 28800)])) rfl cl37 rfl) (mend_within.calls hw  hx302) ?_
                rintro _ w305 ⟨f303, hle304, rfl, hw⟩
                replace hs5 := hs5.mono hle304
                replace hs9 := hs9.mono hle304
                replace hs13 := hs13.mono hle304
                replace hs17 := hs17.mono hle304
                replace hs21 := hs21.mono hle304
                replace hc299 := fun j v hv => hcell_le hle304 (hc299 j v hv)
                refine el_val (v := (Value.bool (!x301))) (wanted_n rfl) rfl rfl (run_pev (v := (Value.bool (!x301))) rfl) ?_
                refine el_val (v := (Value.bool (!x301))) (wanted_n rfl) rfl rfl (run_pev (v := (Value.bool (!x301))) rfl) ?_
                rcases Bool.eq_false_or_eq_true (!x301) with hb306 | hb306
                · replace h := ifb_t hb306 h
                  refine el_pass (wanted_f rfl rfl rfl hb306) rfl rfl ?_
                  refine el_pass (wanted_f rfl rfl rfl hb306) rfl rfl ?_
                  refine el_pass (wanted_f rfl rfl rfl hb306) rfl rfl ?_
                  refine el_pass (wanted_f rfl rfl rfl hb306) rfl rfl ?_
                  refine el_pass (wanted_f rfl rfl rfl hb306) rfl rfl ?_
                  refine el_pass (wanted_f rfl rfl rfl hb306) rfl rfl ?_
                  refine el_pass (wanted_f rfl rfl rfl hb306) rfl rfl ?_
                  refine el_val (v := (Value.bool true)) (wanted_n rfl) rfl rfl (run_pick_t rfl hb306 rfl) ?_
                  refine el_val (v := (Value.bool true)) (wanted_n rfl) rfl rfl (run_pev (v := (Value.bool true)) rfl) ?_
                  refine el_pass (wanted_f rfl rfl rfl rfl) rfl rfl ?_
                  refine el_pass (wanted_f rfl rfl rfl rfl) rfl rfl ?_
                  refine el_pass (wanted_f rfl rfl rfl rfl) rfl rfl ?_
                  refine el_pass (wanted_f rfl rfl rfl rfl) rfl rfl ?_
                  refine el_pass (wanted_f rfl rfl rfl rfl) rfl rfl ?_
                  refine el_pass (wanted_f rfl rfl rfl rfl) rfl rfl ?_
                  refine el_pass (wanted_f rfl rfl rfl rfl) rfl rfl ?_
                  refine el_val (v := (Value.bool true)) (wanted_n rfl) rfl rfl (run_pick_t rfl rfl rfl) ?_
                  refine el_nil ?_
                  obtain rfl := Option.some.inj h
                  exact ⟨f303, hle304, ⟨rfl, rfl, rfl, rfl, trivial⟩, hw⟩
                · replace h := ifb_f hb306 h
                  refine el_val (v := (Value.pointer (some ⟨b150, 1, none⟩))) (wanted_y rfl rfl rfl hb306) rfl rfl (run_fieldAddr tf26_1 (o := 0) rfl) ?_
                  refine el_val (v := (Value.slice A6 n7 c8)) (wanted_y rfl rfl rfl hb306) rfl rfl (run_load1 (ad := ⟨b150, 1, none⟩) ta22 rfl (wd_cell 0 hw rfl rfl)) ?_
                  refine el_val (v := (Value.int .i64 (i241 : Int))) (wanted_y rfl rfl rfl hb306) rfl rfl (run_pev (v := (Value.int .i64 (i241 : Int))) rfl) ?_
                  obtain ⟨x307, hx308, h⟩ := bind_some h
                  obtain ⟨b309, of310, es311, hA312, hc313, he314⟩ := sl_el hs9 hx308
                  obtain rfl : es311 = _ := he314
                  refine el_val (v := (Value.pointer (some (eAdr A6 (((i241 : Int)).toNat * 1))))) (wanted_y rfl rfl rfl hb306) rfl rfl (run_idx te22 ts3 rfl hs9.len rfl hx308 hA312) ?_
                  refine el_val (v := (Value.int .i64 x307)) (wanted_y rfl rfl rfl hb306) rfl rfl (run_load1 (ad := (eAdr A6 (((i241 : Int)).toNat * 1))) ta3 rfl (hw.fz (hc313 0 _ rfl))) ?_
                  obtain ⟨x315, hx316, h⟩ := bind_some h
                  refine el_call (wanted_y rfl rfl rfl hb306) rfl rfl (run_call (vals := (List.toArray [(Value.int .i64 x307), (Value.int .i64 (-1)), (Value.int .i64 28800)])) rfl cl37 rfl) (mend_within.calls hw  hx316) ?_
                  rintro _ w319 ⟨f317, hle318, rfl, hw⟩
                  replace hs5 := hs5.mono hle318
                  replace hs9 := hs9.mono hle318
                  replace hs13 := hs13.mono hle318
                  replace hs17 := hs17.mono hle318
                  replace hs21 := hs21.mono hle318
                  replace hc299 := fun j v hv => hcell_le hle318 (hc299 j v hv)
                  replace hc313 := fun j v hv => hcell_le hle318 (hc313 j v hv)
                  refine el_val (v := (Value.bool (!x315))) (wanted_y rfl rfl rfl hb306) rfl rfl (run_pev (v := (Value.bool (!x315))) rfl) ?_
                  refine el_val (v := (Value.bool (!x315))) (wanted_n rfl) rfl rfl (run_pick_f rfl hb306 rfl) ?_
                  refine el_val (v := (Value.bool (!x315))) (wanted_n rfl) rfl rfl (run_pev (v := (Value.bool (!x315))) rfl) ?_
                  rcases Bool.eq_false_or_eq_true (!x315) with hb320 | hb320
                  · replace h := ifb_t hb320 h
                    refine el_pass (wanted_f rfl rfl rfl hb320) rfl rfl ?_
                    refine el_pass (wanted_f rfl rfl rfl hb320) rfl rfl ?_
                    refine el_pass (wanted_f rfl rfl rfl hb320) rfl rfl ?_
                    refine el_pass (wanted_f rfl rfl rfl hb320) rfl rfl ?_
                    refine el_pass (wanted_f rfl rfl rfl hb320) rfl rfl ?_
                    refine el_pass (wanted_f rfl rfl rfl hb320) rfl rfl ?_
                    refine el_pass (wanted_f rfl rfl rfl hb320) rfl rfl ?_
                    refine el_val (v := (Value.bool true)) (wanted_n rfl) rfl rfl (run_pick_t rfl hb320 rfl) ?_
                    refine el_nil ?_
                    obtain rfl := Option.some.inj h
                    exact ⟨f317, (HP.le_trans hle304 hle318), ⟨rfl, rfl, rfl, rfl, trivial⟩, hw⟩
                  · replace h := ifb_f hb320 h
                    refine el_val (v := (Value.pointer (some ⟨b150, 2, none⟩))) (wanted_y rfl rfl rfl hb320) rfl rfl (run_fieldAddr tf26_2 (o := 0) rfl) ?_
                    refine el_val (v := (Value.slice A10 n11 c12)) (wanted_y rfl rfl rfl hb320) rfl rfl (run_load1 (ad := ⟨b150, 2, none⟩) ta22 rfl (wd_cell 0 hw rfl rfl)) ?_
                    refine el_val (v := (Value.int .i64 (i241 : Int))) (wanted_y rfl rfl rfl hb320) rfl rfl (run_pev (v := (Value.int .i64 (i241 : Int))) rfl) ?_
                    obtain ⟨x321, hx322, h⟩ := bind_some h
                    obtain ⟨b323, of324, es325, hA326, hc327, he328⟩ := sl_el hs13 hx322
                    obtain rfl : es325 = _ := he328
                    refine el_val (v := (Value.pointer (some (eAdr A10 (((i241 : Int)).toNat * 1))))) (wanted_y rfl rfl rfl hb320) rfl rfl (run_idx te22 ts3 rfl hs13.len rfl hx322 hA326) ?_
                    refine el_val (v := (Value.int .i64 x321)) (wanted_y rfl rfl rfl hb320) rfl rfl (run_load1 (ad := (eAdr A10 (((i241 : Int)).toNat * 1))) ta3 rfl (hw.fz (hc327 0 _ rfl))) ?_
                    obtain ⟨x329, hx330, h⟩ := bind_some h
                    refine el_call (wanted_y rfl rfl rfl hb320) rfl rfl (run_call (vals := (List.toArray [(Value.int .i64 x321), (Value.int .i64 (-1)), (Value.int .i64 28800)])) rfl cl37 rfl) (mend_within.calls hw  hx330) ?_
                    rintro _ w333 ⟨f331, hle332, rfl, hw⟩
                    replace hs5 := hs5.mono hle332
                    replace hs9 := hs9.mono hle332
                    replace hs13 := hs13.mono hle332
                    replace hs17 := hs17.mono hle332
                    replace hs21 := hs21.mono hle332
                    replace hc299 := fun j v hv => hcell_le hle332 (hc299 j v hv)
                    replace hc313 := fun j v hv => hcell_le hle332 (hc313 j v hv)
                    replace hc327 := fun j v hv => hcell_le hle332 (hc327 j v hv)
                    refine el_val (v := (Value.bool (!x329))) (wanted_y rfl rfl rfl hb320) rfl rfl (run_pev (v := (Value.bool (!x329))) rfl) ?_
                    refine el_val (v := (Value.bool (!x329))) (wanted_n rfl) rfl rfl (run_pick_f rfl hb320 rfl) ?_
                    refine el_nil ?_
                    obtain rfl := Option.some.inj h
                    exact ⟨f331, (HP.le_trans (HP.le_trans hle304 hle318) hle332), ⟨rfl, rfl, rfl, rfl, trivial⟩, hw⟩
              · rintro ρ334 w335 ⟨f291, hle292, hl293, hw⟩
                first | refine ewp_live hl293 fun ρ336 => ?_ | rw [← hl293.eq]
                replace hs5 := hs5.mono hle292
                replace hs9 := hs9.mono hle292
                replace hs13 := hs13.mono hle292
                replace hs17 := hs17.mono hle292
                replace hs21 := hs21.mono hle292
                refine ewp_cond s290 rfl (fun hb337 => ?_) (fun hb337 => ?_)
                · replace h := ifb_t hb337 h
                  refine ewp_seq ?_
                  refine ewp_region ?_
                  refine el_val (v := (Value.int .i64 2)) (wanted_n rfl) rfl rfl (run_pev (v := (Value.int .i64 2)) rfl) ?_
                  refine el_nil ?_
                  refine ewp_ret ?_
                  replace hw := hw.drop_0
                  obtain rfl := Option.some.inj h
                  refine ⟨_, rfl, fun hf => ⟨_, hf, fun hr => ?_⟩⟩
                  subst hr
                  exact ⟨_, res1 rfl, f291, (HP.le_trans (HP.le_trans (HP.le_trans hle161 hle177) hle187) hle292), rfl, hw⟩
                · replace h := ifb_f hb337 h
                  refine ewp_skip ?_
                  refine ewp_region ?_
                  refine el_val (v := (Value.int .i64 (w64 ((i241 : Int) + 1)))) (wanted_n rfl) rfl rfl (run_pev (v := (Value.int .i64 (w64 ((i241 : Int) + 1)))) rfl) ?_
                  refine el_val (v := (Value.int .i64 (w64 ((i241 : Int) + 1)))) (wanted_n rfl) rfl rfl (run_pev (v := (Value.int .i64 (w64 ((i241 : Int) + 1)))) rfl) ?_
                  refine el_nil ?_
                  obtain rfl := Option.some.inj h
                  exact ⟨_, rfl, f291, (HP.le_trans hle187 hle292), ⟨rfl, rfl, (congrArg (Value.int .i64) (succ_w64 hs5.room hx)), trivial⟩, hw⟩
            · rintro s185 ρ338 w339 hfin340 ⟨f186, hle187, hl188, hw⟩
              first | refine ewp_live hl188 fun ρ341 => ?_ | rw [← hl188.eq]
              replace hs5 := hs5.mono hle187
              replace hs9 := hs9.mono hle187
              replace hs13 := hs13.mono hle187
              replace hs17 := hs17.mono hle187
              replace hs21 := hs21.mono hle187
              refine ewp_seq ?_
              refine ewp_region ?_
              refine el_val (v := (Value.bool (decide ((p1.Ready.length : Int) < (p1.Ready.length : Int))))) (wanted_n rfl) rfl rfl (run_pev (v := (Value.bool (decide ((p1.Ready.length : Int) < (p1.Ready.length : Int))))) rfl) ?_
              refine el_nil ?_
              refine ewp_seq ?_
              refine ewp_cond_f rfl (nlt_self _) ?_
              refine ewp_exit ?_
              exact ⟨s185, hfin340, f186, hle187, ⟨rfl, trivial⟩, hw⟩
          · rintro ρ342 w343 ⟨s185, rfl, f186, hle187, hl188, hw⟩
            replace h := on_go h
            first | refine ewp_live hl188 fun ρ344 => ?_ | rw [← hl188.eq]
            replace hs5 := hs5.mono hle187
            replace hs9 := hs9.mono hle187
            replace hs13 := hs13.mono hle187
            replace hs17 := hs17.mono hle187
            replace hs21 := hs21.mono hle187
            refine ewp_seq ?_
            refine ewp_seq ?_
            refine ewp_region ?_
            refine el_val (v := (Value.agg #[(Value.slice A2 n3 c4), (Value.slice A6 n7 c8), (Value.slice A10 n11 c12), (Value.slice A14 n15 c16), (Value.slice A18 n19 c20)])) (wanted_n rfl) rfl rfl (run_loadN (ad := ⟨b150, 0, none⟩) (cs := [(Value.slice A2 n3 c4), (Value.slice A6 n7 c8), (Value.slice A10 n11 c12), (Value.slice A14 n15 c16), (Value.slice A18 n19 c20)]) ta26 ts26 rfl rfl (wd_cells 0 hw rfl rfl)) ?_
            refine el_val (v := (Value.pointer (some ⟨b150, 3, none⟩))) (wanted_n rfl) rfl rfl (run_fieldAddr tf26_3 (o := 0) rfl) ?_
            refine el_val (v := (Value.slice A14 n15 c16)) (wanted_n rfl) rfl rfl (run_load1 (ad := ⟨b150, 3, none⟩) ta23 rfl (wd_cell 0 hw rfl rfl)) ?_
            obtain ⟨x345, hx346, h⟩ := bind_some h
            refine el_call (wanted_n rfl) rfl rfl (run_call (vals := (List.toArray [(Value.agg #[(Value.slice A2 n3 c4), (Value.slice A6 n7 c8), (Value.slice A10 n11 c12), (Value.slice A14 n15 c16), (Value.slice A18 n19 c20)]), (Value.slice A14 n15 c16)])) rfl cl59 rfl) (mend_checkArcs.calls hw hs5 hs9 hs13 hs17 hs21 hs17 hx346) ?_
            rintro _ w349 ⟨f347, hle348, rfl, hw⟩
            replace hs5 := hs5.mono hle348
            replace hs9 := hs9.mono hle348
            replace hs13 := hs13.mono hle348
            replace hs17 := hs17.mono hle348
            replace hs21 := hs21.mono hle348
            refine el_val (v := (Value.int .i64 x345)) (wanted_n rfl) rfl rfl (run_pev (v := (Value.int .i64 x345)) rfl) ?_
            refine el_nil ?_
            refine ewp_seq ?_
            refine ewp_region ?_
            refine el_val (v := (Value.int .i64 x345)) (wanted_n rfl) rfl rfl (run_pev (v := (Value.int .i64 x345)) rfl) ?_
            refine el_val (v := (Value.bool (x345 != 0))) (wanted_n rfl) rfl rfl (run_pev (v := (Value.bool (x345 != 0))) rfl) ?_
            refine el_nil ?_
            refine ewp_cond (x345 != 0) rfl (fun hb350 => ?_) (fun hb350 => ?_)
            · replace h := ifb_t hb350 h
              refine ewp_seq ?_
              refine ewp_region ?_
              refine el_val (v := (Value.int .i64 x345)) (wanted_n rfl) rfl rfl (run_pev (v := (Value.int .i64 x345)) rfl) ?_
              refine el_val (v := (Value.int .i64 x345)) (wanted_n rfl) rfl rfl (run_pev (v := (Value.int .i64 x345)) rfl) ?_
              refine el_nil ?_
              refine ewp_ret ?_
              replace hw := hw.drop_0
              obtain rfl := Option.some.inj h
              exact ⟨_, res1 rfl, f347, (HP.le_trans (HP.le_trans (HP.le_trans hle161 hle177) hle187) hle348), rfl, hw⟩
            · replace h := ifb_f hb350 h
              refine ewp_skip ?_
              refine ewp_seq ?_
              refine ewp_seq ?_
              refine ewp_region ?_
              refine el_val (v := (Value.pointer (some ⟨b150, 4, none⟩))) (wanted_n rfl) rfl rfl (run_fieldAddr tf26_4 (o := 0) rfl) ?_
              refine el_val (v := (Value.slice A18 n19 c20)) (wanted_n rfl) rfl rfl (run_load1 (ad := ⟨b150, 4, none⟩) ta24 rfl (wd_cell 0 hw rfl rfl)) ?_
              refine el_val (v := (Value.int .i64 (p1.Choices.length : Int))) (wanted_n rfl) rfl rfl (run_lenS te24 rfl hs21.len) ?_
              refine el_val (v := (Value.int .i64 0)) (wanted_n rfl) rfl rfl (run_pev (v := (Value.int .i64 0)) rfl) ?_
              refine el_nil ?_
              obtain ⟨c395, hc396, h⟩ := bind_some h
              refine ewp_M (fun ρ' w' => ∃ s351, c395 = .go s351 ∧ ∃ (f352 : HP), HP.le f347 f352 ∧ Live ρ' [] ∧ Wd G w' f352 (Blk b150 (.cells (List.toArray [(Value.slice A2 n3 c4), (Value.slice A6 n7 c8), (Value.slice A10 n11 c12), (Value.slice A14 n15 c16), (Value.slice A18 n19 c20)]) 26 (0, 0)) :: L)) (fun ρ' w' => ∃ x_, c395 = .out x_ ∧ (x_ = r → RetPost Try.prog Try.f36 (mend_CheckGraph.R G f L A2 n3 c4 A6 n7 c8 A10 n11 c12 A14 n15 c16 A18 n19 c20 p1 r) .ret ρ' w')) noX ?_ ?_ ?_ ?_
              · refine ewp_block ?_
                refine ewp_forC (fun (i397 : Nat) (s351 : Unit) ρ' w' => ∃ (f352 : HP), HP.le f347 f352 ∧ Live ρ' [(1, (Value.pointer (some ⟨b150, 0, none⟩))), (84, (Value.slice A18 n19 c20)), (85, (Value.int .i64 (p1.Choices.length : Int))), (86, (Value.int .i64 (i397 : Int)))] ∧ Wd G w' f352 (Blk b150 (.cells (List.toArray [(Value.slice A2 n3 c4), (Value.slice A6 n7 c8), (Value.slice A10 n11 c12), (Value.slice A14 n15 c16), (Value.slice A18 n19 c20)]) 26 (0, 0)) :: L)) hc396 ⟨f347, (HP.le_refl _), ⟨rfl, rfl, rfl, rfl, trivial⟩, hw⟩ ?_ ?_
                · rintro i397 x398 s351 ct401 ρ399 w400 hx h ⟨f352, hle353, hl354, hw⟩
                  unfold mend_CheckGraph_b6 at h
                  first | refine ewp_live hl354 fun ρ402 => ?_ | rw [← hl354.eq]
                  replace hs5 := hs5.mono hle353
                  replace hs9 := hs9.mono hle353
                  replace hs13 := hs13.mono hle353
                  replace hs17 := hs17.mono hle353
                  replace hs21 := hs21.mono hle353
                  refine ewp_seq ?_
                  refine ewp_region ?_
                  refine el_val (v := (Value.bool (decide ((i397 : Int) < (p1.Choices.length : Int))))) (wanted_n rfl) rfl rfl (run_pev (v := (Value.bool (decide ((i397 : Int) < (p1.Choices.length : Int))))) rfl) ?_
                  refine el_nil ?_
                  refine ewp_seq ?_
                  refine ewp_cond_t rfl (lt_len hx) ?_
                  refine ewp_skip ?_
                  refine ewp_seq ?_
                  refine ewp_block ?_
                  refine ewp_seq ?_
                  refine ewp_region ?_
                  obtain ⟨b403, of404, es405, hA406, hc407, he408⟩ := sl_el hs21 (idx_nat hx)
                  obtain ⟨A409, n410, c411, rfl, hs412⟩ := fS_mend_Choice.op he408
                  refine el_val (v := (Value.pointer (some (eAdr A18 (((i397 : Int)).toNat * 1))))) (wanted_n rfl) rfl rfl (run_idx te24 ts37 rfl hs21.len rfl (idx_nat hx) hA406) ?_
                  refine el_val (v := (Value.agg #[(Value.slice A409 n410 c411)])) (wanted_n rfl) rfl rfl (run_loadN (ad := (eAdr A18 (((i397 : Int)).toNat * 1))) (cs := [(Value.slice A409 n410 c411)]) ta37 ts37 rfl rfl (fz_cells hw hc407)) ?_
                  refine el_exv (wanted_n rfl) rfl rfl (run_allocE (cs := [(Value.slice none 0 0)]) tz37 rfl hw) ?_
                  rintro w415 _ ⟨b413, rfl, hw⟩
                  refine el_exu (wanted_n rfl) rfl (run_blkSetE (new := List.toArray [(Value.slice A409 n410 c411)]) hw rfl rfl ts37 rfl rfl rfl) ?_
                  rintro w416 hw
                  refine el_nil ?_
                  refine ewp_seq ?_
                  refine ewp_seq ?_
                  refine ewp_region ?_
                  refine el_val (v := (Value.pointer (some ⟨b413, 0, none⟩))) (wanted_n rfl) rfl rfl (run_fieldAddr tf37_0 (o := 0) rfl) ?_
                  refine el_val (v := (Value.slice A409 n410 c411)) (wanted_n rfl) rfl rfl (run_load1 (ad := ⟨b413, 0, none⟩) ta35 rfl (wd_cell 0 hw rfl rfl)) ?_
                  refine el_val (v := (Value.int .i64 (x398.Ways.length : Int))) (wanted_n rfl) rfl rfl (run_lenS te35 rfl hs412.len) ?_
                  refine el_val (v := (Value.bool (decide ((x398.Ways.length : Int) > 3)))) (wanted_n rfl) rfl rfl (run_pev (v := (Value.bool (decide ((x398.Ways.length : Int) > 3)))) rfl) ?_
                  refine el_nil ?_
                  refine ewp_cond (decide ((x398.Ways.length : Int) > 3)) rfl (fun hb417 => ?_) (fun hb417 => ?_)
                  · replace h := ifb_t hb417 h
                    refine ewp_seq ?_
                    refine ewp_region ?_
                    refine el_val (v := (Value.int .i64 4)) (wanted_n rfl) rfl rfl (run_pev (v := (Value.int .i64 4)) rfl) ?_
                    refine el_nil ?_
                    refine ewp_ret ?_
                    replace hw := hw.drop_0
                    replace hw := hw.drop_0
                    obtain rfl := Option.some.inj h
                    refine ⟨_, rfl, fun hf => ⟨_, hf, fun hr => ?_⟩⟩
                    subst hr
                    exact ⟨_, res1 rfl, f352, (HP.le_trans (HP.le_trans (HP.le_trans (HP.le_trans hle161 hle177) hle187) hle348) hle353), rfl, hw⟩
                  · replace h := ifb_f hb417 h
                    refine ewp_skip ?_
                    refine ewp_seq ?_
                    refine ewp_region ?_
                    refine el_val (v := (Value.pointer (some ⟨b413, 0, none⟩))) (wanted_n rfl) rfl rfl (run_fieldAddr tf37_0 (o := 0) rfl) ?_
                    refine el_val (v := (Value.slice A409 n410 c411)) (wanted_n rfl) rfl rfl (run_load1 (ad := ⟨b413, 0, none⟩) ta35 rfl (wd_cell 0 hw rfl rfl)) ?_
                    refine el_val (v := (Value.int .i64 (x398.Ways.length : Int))) (wanted_n rfl) rfl rfl (run_lenS te35 rfl hs412.len) ?_
                    refine el_val (v := (Value.int .i64 0)) (wanted_n rfl) rfl rfl (run_pev (v := (Value.int .i64 0)) rfl) ?_
                    refine el_nil ?_
                    obtain ⟨c441, hc442, h⟩ := bind_some h
                    refine ewp_M (fun ρ' w' => ∃ s418, c441 = .go s418 ∧ ∃ (f419 : HP), HP.le f352 f419 ∧ Live ρ' [(1, (Value.pointer (some ⟨b150, 0, none⟩))), (84, (Value.slice A18 n19 c20)), (85, (Value.int .i64 (p1.Choices.length : Int))), (86, (Value.int .i64 (i397 : Int)))] ∧ Wd G w' f419 (Blk b413 (.cells (List.toArray [(Value.slice A409 n410 c411)]) 37 (0, 0)) :: Blk b150 (.cells (List.toArray [(Value.slice A2 n3 c4), (Value.slice A6 n7 c8), (Value.slice A10 n11 c12), (Value.slice A14 n15 c16), (Value.slice A18 n19 c20)]) 26 (0, 0)) :: L)) (fun ρ' w' => ∃ x_, c441 = .out x_ ∧ (x_ = r → RetPost Try.prog Try.f36 (mend_CheckGraph.R G f L A2 n3 c4 A6 n7 c8 A10 n11 c12 A14 n15 c16 A18 n19 c20 p1 r) .ret ρ' w')) noX ?_ ?_ ?_ ?_
                    · refine ewp_block ?_
                      refine ewp_forC (fun (i443 : Nat) (s418 : Unit) ρ' w' => ∃ (f419 : HP), HP.le f352 f419 ∧ Live ρ' [(1, (Value.pointer (some ⟨b150, 0, none⟩))), (84, (Value.slice A18 n19 c20)), (85, (Value.int .i64 (p1.Choices.length : Int))), (86, (Value.int .i64 (i397 : Int))), (95, (Value.slice A409 n410 c411)), (96, (Value.int .i64 (x398.Ways.length : Int))), (97, (Value.int .i64 (i443 : Int)))] ∧ Wd G w' f419 (Blk b413 (.cells (List.toArray [(Value.slice A409 n410 c411)]) 37 (0, 0)) :: Blk b150 (.cells (List.toArray [(Value.slice A2 n3 c4), (Value.slice A6 n7 c8), (Value.slice A10 n11 c12), (Value.slice A14 n15 c16), (Value.slice A18 n19 c20)]) 26 (0, 0)) :: L)) hc442 ⟨f352, (HP.le_refl _), ⟨rfl, rfl, rfl, rfl, rfl, rfl, rfl, trivial⟩, hw⟩ ?_ ?_
                      · rintro i443 x444 s418 ct447 ρ445 w446 hx h ⟨f419, hle420, hl421, hw⟩
                        unfold mend_CheckGraph_b7 at h
                        first | refine ewp_live hl421 fun ρ448 => ?_ | rw [← hl421.eq]
                        replace hs5 := hs5.mono hle420
                        replace hs9 := hs9.mono hle420
                        replace hs13 := hs13.mono hle420
                        replace hs17 := hs17.mono hle420
                        replace hs21 := hs21.mono hle420
                        replace hs412 := hs412.mono hle420
                        replace hc407 := fun j v hv => hcell_le hle420 (hc407 j v hv)
                        refine ewp_seq ?_
                        refine ewp_region ?_
                        refine el_val (v := (Value.bool (decide ((i443 : Int) < (x398.Ways.length : Int))))) (wanted_n rfl) rfl rfl (run_pev (v := (Value.bool (decide ((i443 : Int) < (x398.Ways.length : Int))))) rfl) ?_
                        refine el_nil ?_
                        refine ewp_seq ?_
                        refine ewp_cond_t rfl (lt_len hx) ?_
                        refine ewp_skip ?_
                        refine ewp_seq ?_
                        refine ewp_block ?_
                        refine ewp_seq ?_
                        refine ewp_region ?_
                        obtain ⟨b449, of450, es451, hA452, hc453, he454⟩ := sl_el hs412 (idx_nat hx)
                        obtain ⟨A455, n456, c457, rfl, hs458⟩ := he454
                        refine el_val (v := (Value.pointer (some (eAdr A409 (((i443 : Int)).toNat * 1))))) (wanted_n rfl) rfl rfl (run_idx te35 ts23 rfl hs412.len rfl (idx_nat hx) hA452) ?_
                        refine el_val (v := (Value.slice A455 n456 c457)) (wanted_n rfl) rfl rfl (run_load1 (ad := (eAdr A409 (((i443 : Int)).toNat * 1))) ta23 rfl (hw.fz (hc453 0 _ rfl))) ?_
                        refine el_val (v := (Value.slice A455 n456 c457)) (wanted_n rfl) rfl rfl (run_pev (v := (Value.slice A455 n456 c457)) rfl) ?_
                        refine el_nil ?_
                        refine ewp_seq ?_
                        refine ewp_seq ?_
                        refine ewp_region ?_
                        refine el_val (v := (Value.slice A455 n456 c457)) (wanted_n rfl) rfl rfl (run_pev (v := (Value.slice A455 n456 c457)) rfl) ?_
                        refine el_val (v := (Value.int .i64 (x444.length : Int))) (wanted_n rfl) rfl rfl (run_lenS te23 rfl hs458.len) ?_
                        refine el_val (v := (Value.bool (decide ((x444.length : Int) > 4)))) (wanted_n rfl) rfl rfl (run_pev (v := (Value.bool (decide ((x444.length : Int) > 4)))) rfl) ?_
                        refine el_nil ?_
                        refine ewp_cond (decide ((x444.length : Int) > 4)) rfl (fun hb459 => ?_) (fun hb459 => ?_)
                        · replace h := ifb_t hb459 h
                          refine ewp_seq ?_
                          refine ewp_region ?_
                          refine el_val (v := (Value.int .i64 4)) (wanted_n rfl) rfl rfl (run_pev (v := (Value.int .i64 4)) rfl) ?_
                          refine el_nil ?_
                          refine ewp_ret ?_
                          replace hw := hw.drop_0
                          replace hw := hw.drop_0
                          obtain rfl := Option.some.inj h
                          refine ⟨_, rfl, fun hf => ⟨_, hf, fun hr => ?_⟩⟩
                          subst hr
                          exact ⟨_, res1 rfl, f419, (HP.le_trans (HP.le_trans (HP.le_trans (HP.le_trans (HP.le_trans hle161 hle177) hle187) hle348) hle353) hle420), rfl, hw⟩
                        · replace h := ifb_f hb459 h
                          refine ewp_skip ?_
                          refine ewp_seq ?_
                          refine ewp_region ?_
                          refine el_val (v := (Value.agg #[(Value.slice A2 n3 c4), (Value.slice A6 n7 c8), (Value.slice A10 n11 c12), (Value.slice A14 n15 c16), (Value.slice A18 n19 c20)])) (wanted_n rfl) rfl rfl (run_loadN (ad := ⟨b150, 0, none⟩) (cs := [(Value.slice A2 n3 c4), (Value.slice A6 n7 c8), (Value.slice A10 n11 c12), (Value.slice A14 n15 c16), (Value.slice A18 n19 c20)]) ta26 ts26 rfl rfl (wd_cells 1 hw rfl rfl)) ?_
                          refine el_val (v := (Value.slice A455 n456 c457)) (wanted_n rfl) rfl rfl (run_pev (v := (Value.slice A455 n456 c457)) rfl) ?_
                          obtain ⟨x460, hx461, h⟩ := bind_some h
                          refine el_call (wanted_n rfl) rfl rfl (run_call (vals := (List.toArray [(Value.agg #[(Value.slice A2 n3 c4), (Value.slice A6 n7 c8), (Value.slice A10 n11 c12), (Value.slice A14 n15 c16), (Value.slice A18 n19 c20)]), (Value.slice A455 n456 c457)])) rfl cl59 rfl) (mend_checkArcs.calls hw hs5 hs9 hs13 hs17 hs21 hs458 hx461) ?_
                          rintro _ w464 ⟨f462, hle463, rfl, hw⟩
                          replace hs5 := hs5.mono hle463
                          replace hs9 := hs9.mono hle463
                          replace hs13 := hs13.mono hle463
                          replace hs17 := hs17.mono hle463
                          replace hs21 := hs21.mono hle463
                          replace hs412 := hs412.mono hle463
                          replace hc407 := fun j v hv => hcell_le hle463 (hc407 j v hv)
                          replace hs458 := hs458.mono hle463
                          replace hc453 := fun j v hv => hcell_le hle463 (hc453 j v hv)
                          refine el_val (v := (Value.int .i64 x460)) (wanted_n rfl) rfl rfl (run_pev (v := (Value.int .i64 x460)) rfl) ?_
                          refine el_nil ?_
                          refine ewp_seq ?_
                          refine ewp_region ?_
                          refine el_val (v := (Value.int .i64 x460)) (wanted_n rfl) rfl rfl (run_pev (v := (Value.int .i64 x460)) rfl) ?_
                          refine el_val (v := (Value.bool (x460 != 0))) (wanted_n rfl) rfl rfl (run_pev (v := (Value.bool (x460 != 0))) rfl) ?_
                          refine el_nil ?_
                          refine ewp_cond (x460 != 0) rfl (fun hb465 => ?_) (fun hb465 => ?_)
                          · replace h := ifb_t hb465 h
                            refine ewp_seq ?_
                            refine ewp_region ?_
                            refine el_val (v := (Value.int .i64 x460)) (wanted_n rfl) rfl rfl (run_pev (v := (Value.int .i64 x460)) rfl) ?_
                            refine el_val (v := (Value.int .i64 x460)) (wanted_n rfl) rfl rfl (run_pev (v := (Value.int .i64 x460)) rfl) ?_
                            refine el_nil ?_
                            refine ewp_ret ?_
                            replace hw := hw.drop_0
                            replace hw := hw.drop_0
                            obtain rfl := Option.some.inj h
                            refine ⟨_, rfl, fun hf => ⟨_, hf, fun hr => ?_⟩⟩
                            subst hr
                            exact ⟨_, res1 rfl, f462, (HP.le_trans (HP.le_trans (HP.le_trans (HP.le_trans (HP.le_trans (HP.le_trans hle161 hle177) hle187) hle348) hle353) hle420) hle463), rfl, hw⟩
                          · replace h := ifb_f hb465 h
                            refine ewp_skip ?_
                            refine ewp_region ?_
                            refine el_val (v := (Value.int .i64 (w64 ((i443 : Int) + 1)))) (wanted_n rfl) rfl rfl (run_pev (v := (Value.int .i64 (w64 ((i443 : Int) + 1)))) rfl) ?_
                            refine el_val (v := (Value.int .i64 (w64 ((i443 : Int) + 1)))) (wanted_n rfl) rfl rfl (run_pev (v := (Value.int .i64 (w64 ((i443 : Int) + 1)))) rfl) ?_
                            refine el_nil ?_
                            obtain rfl := Option.some.inj h
                            exact ⟨_, rfl, f462, (HP.le_trans hle420 hle463), ⟨rfl, rfl, rfl, rfl, rfl, rfl, (congrArg (Value.int .i64) (succ_w64 hs412.room hx)), trivial⟩, hw⟩
                      · rintro s418 ρ466 w467 hfin468 ⟨f419, hle420, hl421, hw⟩
                        first | refine ewp_live hl421 fun ρ469 => ?_ | rw [← hl421.eq]
                        replace hs5 := hs5.mono hle420
                        replace hs9 := hs9.mono hle420
                        replace hs13 := hs13.mono hle420
                        replace hs17 := hs17.mono hle420
                        replace hs21 := hs21.mono hle420
                        replace hs412 := hs412.mono hle420
                        replace hc407 := fun j v hv => hcell_le hle420 (hc407 j v hv)
                        refine ewp_seq ?_
                        refine ewp_region ?_
                        refine el_val (v := (Value.bool (decide ((x398.Ways.length : Int) < (x398.Ways.length : Int))))) (wanted_n rfl) rfl rfl (run_pev (v := (Value.bool (decide ((x398.Ways.length : Int) < (x398.Ways.length : Int))))) rfl) ?_
                        refine el_nil ?_
                        refine ewp_seq ?_
                        refine ewp_cond_f rfl (nlt_self _) ?_
                        refine ewp_exit ?_
                        exact ⟨s418, hfin468, f419, hle420, ⟨rfl, rfl, rfl, rfl, trivial⟩, hw⟩
                    · rintro ρ470 w471 ⟨s418, rfl, f419, hle420, hl421, hw⟩
                      replace h := on_go h
                      first | refine ewp_live hl421 fun ρ472 => ?_ | rw [← hl421.eq]
                      replace hs5 := hs5.mono hle420
                      replace hs9 := hs9.mono hle420
                      replace hs13 := hs13.mono hle420
                      replace hs17 := hs17.mono hle420
                      replace hs21 := hs21.mono hle420
                      replace hs412 := hs412.mono hle420
                      replace hc407 := fun j v hv => hcell_le hle420 (hc407 j v hv)
                      refine ewp_region ?_
                      refine el_val (v := (Value.int .i64 (w64 ((i397 : Int) + 1)))) (wanted_n rfl) rfl rfl (run_pev (v := (Value.int .i64 (w64 ((i397 : Int) + 1)))) rfl) ?_
                      refine el_val (v := (Value.int .i64 (w64 ((i397 : Int) + 1)))) (wanted_n rfl) rfl rfl (run_pev (v := (Value.int .i64 (w64 ((i397 : Int) + 1)))) rfl) ?_
                      refine el_nil ?_
                      replace hw := hw.drop_0
                      obtain rfl := Option.some.inj h
                      exact ⟨_, rfl, f419, (HP.le_trans hle353 hle420), ⟨rfl, rfl, rfl, (congrArg (Value.int .i64) (succ_w64 hs21.room hx)), trivial⟩, hw⟩
                    · rintro ρ473 w474 ⟨x475, rfl, hq476⟩
                      replace h := on_out h
                      obtain rfl := Option.some.inj h
                      exact ⟨_, rfl, fun hf => ⟨_, hf, hq476⟩⟩
                    · exact fun _ _ _ h => h.elim
                · rintro s351 ρ477 w478 hfin479 ⟨f352, hle353, hl354, hw⟩
                  first | refine ewp_live hl354 fun ρ480 => ?_ | rw [← hl354.eq]
                  replace hs5 := hs5.mono hle353
                  replace hs9 := hs9.mono hle353
                  replace hs13 := hs13.mono hle353
                  replace hs17 := hs17.mono hle353
                  replace hs21 := hs21.mono hle353
                  refine ewp_seq ?_
                  refine ewp_region ?_
                  refine el_val (v := (Value.bool (decide ((p1.Choices.length : Int) < (p1.Choices.length : Int))))) (wanted_n rfl) rfl rfl (run_pev (v := (Value.bool (decide ((p1.Choices.length : Int) < (p1.Choices.length : Int))))) rfl) ?_
                  refine el_nil ?_
                  refine ewp_seq ?_
                  refine ewp_cond_f rfl (nlt_self _) ?_
                  refine ewp_exit ?_
                  exact ⟨s351, hfin479, f352, hle353, trivial, hw⟩
              · rintro ρ481 w482 ⟨s351, rfl, f352, hle353, hl354, hw⟩
                replace h := on_go h
                first | refine ewp_live hl354 fun ρ483 => ?_ | rw [← hl354.eq]
                replace hs5 := hs5.mono hle353
                replace hs9 := hs9.mono hle353
                replace hs13 := hs13.mono hle353
                replace hs17 := hs17.mono hle353
                replace hs21 := hs21.mono hle353
                refine ewp_seq ?_
                refine ewp_region ?_
                refine el_val (v := (Value.int .i64 0)) (wanted_n rfl) rfl rfl (run_pev (v := (Value.int .i64 0)) rfl) ?_
                refine el_nil ?_
                refine ewp_ret ?_
                replace hw := hw.drop_0
                obtain rfl := Option.some.inj h
                exact ⟨_, res1 rfl, f352, (HP.le_trans (HP.le_trans (HP.le_trans (HP.le_trans hle161 hle177) hle187) hle348) hle353), rfl, hw⟩
              · rintro ρ484 w485 ⟨x486, rfl, hq487⟩
                replace h := on_out h
                obtain rfl := Option.some.inj h
                exact hq487 rfl
              · exact fun _ _ _ h => h.elim
          · rintro ρ488 w489 ⟨x490, rfl, hq491⟩
            replace h := on_out h
            obtain rfl := Option.some.inj h
            exact hq491 rfl
          · exact fun _ _ _ h => h.elim
def mend_checkPick_b2 (p1 : S_mend_Graph) (i111 : Nat) (x112 : Int) (s79 : Unit) : Option (Ctl (Unit) (Ctl (Unit) (Int))) :=
  ((idx p1.Choices (i111 : Int)).bind fun (x123 : S_mend_Choice) => ((mend_within x112 0 (x123.Ways.length : Int)).bind fun (x135 : Bool) => (ifb (!x135) (some (.out (.out 2))) (some (.go ())))))
def mend_checkPick (p1 : S_mend_Graph) (p22 : List Int) : Option (Int) :=
  ((mend_CheckGraph p1).bind fun (x72 : Int) => (ifb (x72 != 0) (some x72) (ifb ((p22.length : Int) != (p1.Choices.length : Int)) (some 1) ((forC (mend_checkPick_b2 p1) p22 ()).bind fun c109 => Ctl.on c109 (fun s79 => (some 0)) (fun x150 => (some x150))))))
def mend_checkPick.R (G : World) (f : HP) (L : List HProp) (A2 : Option Addr) (n3 : Nat) (c4 : Nat) (A6 : Option Addr) (n7 : Nat) (c8 : Nat) (A10 : Option Addr) (n11 : Nat) (c12 : Nat) (A14 : Option Addr) (n15 : Nat) (c16 : Nat) (A18 : Option Addr) (n19 : Nat) (c20 : Nat) (A23 : Option Addr) (n24 : Nat) (c25 : Nat) (cur26 : Array Value) (p1 : S_mend_Graph) (p22 : List Int) (r : Int) : Value → World → Prop := fun v' w' =>
  ∃ (f' : HP), HP.le f f' ∧ v' = (Value.int .i64 r) ∧ Wd G w' f' (Arr A23 c25 cur26 :: L)
theorem mend_checkPick.calls {G w : World} {f : HP} {L : List HProp} {A2 : Option Addr} {n3 : Nat} {c4 : Nat} {A6 : Option Addr} {n7 : Nat} {c8 : Nat} {A10 : Option Addr} {n11 : Nat} {c12 : Nat} {A14 : Option Addr} {n15 : Nat} {c16 : Nat} {A18 : Option Addr} {n19 : Nat} {c20 : Nat} {A23 : Option Addr} {n24 : Nat} {c25 : Nat} {cur26 : Array Value} {p1 : S_mend_Graph} {p22 : List Int} (hw : Wd G w f (Arr A23 c25 cur26 :: L)) (hs5 : SlF f (fInt .i64) A2 n3 c4 p1.Ready) (hs9 : SlF f (fInt .i64) A6 n7 c8 p1.Last) (hs13 : SlF f (fInt .i64) A10 n11 c12 p1.Due) (hs17 : SlF f fS_mend_Arc A14 n15 c16 p1.Arcs) (hs21 : SlF f fS_mend_Choice A18 n19 c20 p1.Choices) (hk27 : ArrOk f (fInt .i64) A23 n24 c25 cur26 p22) {r : Int} (h : mend_checkPick p1 p22 = some r) :
    Calls Try.prog 33 #[(Value.agg #[(Value.slice A2 n3 c4), (Value.slice A6 n7 c8), (Value.slice A10 n11 c12), (Value.slice A14 n15 c16), (Value.slice A18 n19 c20)]), (Value.slice A23 n24 c25)] w (Returns (mend_checkPick.R G f L A2 n3 c4 A6 n7 c8 A10 n11 c12 A14 n15 c16 A18 n19 c20 A23 n24 c25 cur26 p1 p22 r)) := by
  unfold mend_checkPick at h
  refine ecalls 37 Try.func33 rfl rfl ?_
  refine ewp_seq ?_
  refine ewp_region ?_
  refine el_exv (wanted_n rfl) rfl rfl (run_boxE (cs := [(Value.slice A2 n3 c4), (Value.slice A6 n7 c8), (Value.slice A10 n11 c12), (Value.slice A14 n15 c16), (Value.slice A18 n19 c20)]) rfl rfl hw) ?_
  rintro w71 _ ⟨b69, rfl, hw⟩
  refine el_val (v := (Value.int .i64 0)) (wanted_n rfl) rfl rfl (run_pev (v := (Value.int .i64 0)) rfl) ?_
  refine el_nil ?_
  refine ewp_seq ?_
  refine ewp_seq ?_
  refine ewp_region ?_
  refine el_val (v := (Value.agg #[(Value.slice A2 n3 c4), (Value.slice A6 n7 c8), (Value.slice A10 n11 c12), (Value.slice A14 n15 c16), (Value.slice A18 n19 c20)])) (wanted_n rfl) rfl rfl (run_loadN (ad := ⟨b69, 0, none⟩) (cs := [(Value.slice A2 n3 c4), (Value.slice A6 n7 c8), (Value.slice A10 n11 c12), (Value.slice A14 n15 c16), (Value.slice A18 n19 c20)]) ta26 ts26 rfl rfl (wd_cells 0 hw rfl rfl)) ?_
  obtain ⟨x72, hx73, h⟩ := bind_some h
  refine el_call (wanted_n rfl) rfl rfl (run_call (vals := (List.toArray [(Value.agg #[(Value.slice A2 n3 c4), (Value.slice A6 n7 c8), (Value.slice A10 n11 c12), (Value.slice A14 n15 c16), (Value.slice A18 n19 c20)])])) rfl cl36 rfl) (mend_CheckGraph.calls hw hs5 hs9 hs13 hs17 hs21 hx73) ?_
  rintro _ w76 ⟨f74, hle75, rfl, hw⟩
  replace hs5 := hs5.mono hle75
  replace hs9 := hs9.mono hle75
  replace hs13 := hs13.mono hle75
  replace hs17 := hs17.mono hle75
  replace hs21 := hs21.mono hle75
  replace hk27 := hk27.mono hle75
  refine el_val (v := (Value.int .i64 x72)) (wanted_n rfl) rfl rfl (run_pev (v := (Value.int .i64 x72)) rfl) ?_
  refine el_nil ?_
  refine ewp_seq ?_
  refine ewp_region ?_
  refine el_val (v := (Value.int .i64 x72)) (wanted_n rfl) rfl rfl (run_pev (v := (Value.int .i64 x72)) rfl) ?_
  refine el_val (v := (Value.bool (x72 != 0))) (wanted_n rfl) rfl rfl (run_pev (v := (Value.bool (x72 != 0))) rfl) ?_
  refine el_nil ?_
  refine ewp_cond (x72 != 0) rfl (fun hb77 => ?_) (fun hb77 => ?_)
  · replace h := ifb_t hb77 h
    refine ewp_seq ?_
    refine ewp_region ?_
    refine el_val (v := (Value.int .i64 x72)) (wanted_n rfl) rfl rfl (run_pev (v := (Value.int .i64 x72)) rfl) ?_
    refine el_val (v := (Value.int .i64 x72)) (wanted_n rfl) rfl rfl (run_pev (v := (Value.int .i64 x72)) rfl) ?_
    refine el_nil ?_
    refine ewp_ret ?_
    replace hw := hw.drop_0
    obtain rfl := Option.some.inj h
    exact ⟨_, res1 rfl, f74, hle75, rfl, hw⟩
  · replace h := ifb_f hb77 h
    refine ewp_skip ?_
    refine ewp_seq ?_
    refine ewp_seq ?_
    refine ewp_region ?_
    refine el_val (v := (Value.slice A23 n24 c25)) (wanted_n rfl) rfl rfl (run_pev (v := (Value.slice A23 n24 c25)) rfl) ?_
    refine el_val (v := (Value.int .i64 (p22.length : Int))) (wanted_n rfl) rfl rfl (run_lenS te22 rfl hk27.len) ?_
    refine el_val (v := (Value.pointer (some ⟨b69, 4, none⟩))) (wanted_n rfl) rfl rfl (run_fieldAddr tf26_4 (o := 0) rfl) ?_
    refine el_val (v := (Value.slice A18 n19 c20)) (wanted_n rfl) rfl rfl (run_load1 (ad := ⟨b69, 4, none⟩) ta24 rfl (wd_cell 0 hw rfl rfl)) ?_
    refine el_val (v := (Value.int .i64 (p1.Choices.length : Int))) (wanted_n rfl) rfl rfl (run_lenS te24 rfl hs21.len) ?_
    refine el_val (v := (Value.bool ((p22.length : Int) != (p1.Choices.length : Int)))) (wanted_n rfl) rfl rfl (run_pev (v := (Value.bool ((p22.length : Int) != (p1.Choices.length : Int)))) rfl) ?_
    refine el_nil ?_
    refine ewp_cond ((p22.length : Int) != (p1.Choices.length : Int)) rfl (fun hb78 => ?_) (fun hb78 => ?_)
    · replace h := ifb_t hb78 h
      refine ewp_seq ?_
      refine ewp_region ?_
      refine el_val (v := (Value.int .i64 1)) (wanted_n rfl) rfl rfl (run_pev (v := (Value.int .i64 1)) rfl) ?_
      refine el_nil ?_
      refine ewp_ret ?_
      replace hw := hw.drop_0
      obtain rfl := Option.some.inj h
      exact ⟨_, res1 rfl, f74, hle75, rfl, hw⟩
    · replace h := ifb_f hb78 h
      refine ewp_skip ?_
      refine ewp_seq ?_
      refine ewp_seq ?_
      refine ewp_region ?_
      refine el_val (v := (Value.slice A23 n24 c25)) (wanted_n rfl) rfl rfl (run_pev (v := (Value.slice A23 n24 c25)) rfl) ?_
      refine el_val (v := (Value.int .i64 (p22.length : Int))) (wanted_n rfl) rfl rfl (run_lenS te22 rfl hk27.len) ?_
      refine el_val (v := (Value.int .i64 0)) (wanted_n rfl) rfl rfl (run_pev (v := (Value.int .i64 0)) rfl) ?_
      refine el_nil ?_
      obtain ⟨c109, hc110, h⟩ := bind_some h
      refine ewp_M (fun ρ' w' => ∃ s79, c109 = .go s79 ∧ ∃ (f80 : HP), HP.le f74 f80 ∧ Live ρ' [] ∧ Wd G w' f80 (Arr A23 c25 cur26 :: Blk b69 (.cells (List.toArray [(Value.slice A2 n3 c4), (Value.slice A6 n7 c8), (Value.slice A10 n11 c12), (Value.slice A14 n15 c16), (Value.slice A18 n19 c20)]) 26 (0, 0)) :: L)) (fun ρ' w' => ∃ x_, c109 = .out x_ ∧ (x_ = r → RetPost Try.prog Try.f33 (mend_checkPick.R G f L A2 n3 c4 A6 n7 c8 A10 n11 c12 A14 n15 c16 A18 n19 c20 A23 n24 c25 cur26 p1 p22 r) .ret ρ' w')) noX ?_ ?_ ?_ ?_
      · refine ewp_block ?_
        replace hw := hw.front1
        refine ewp_forC (fun (i111 : Nat) (s79 : Unit) ρ' w' => ∃ (f80 : HP), HP.le f74 f80 ∧ Live ρ' [(2, (Value.pointer (some ⟨b69, 0, none⟩))), (19, (Value.slice A23 n24 c25)), (20, (Value.int .i64 (p22.length : Int))), (21, (Value.int .i64 (i111 : Int)))] ∧ Wd G w' f80 (Arr A23 c25 cur26 :: Blk b69 (.cells (List.toArray [(Value.slice A2 n3 c4), (Value.slice A6 n7 c8), (Value.slice A10 n11 c12), (Value.slice A14 n15 c16), (Value.slice A18 n19 c20)]) 26 (0, 0)) :: L)) hc110 ⟨f74, (HP.le_refl _), ⟨rfl, rfl, rfl, rfl, trivial⟩, hw⟩ ?_ ?_
        · rintro i111 x112 s79 ct115 ρ113 w114 hx h ⟨f80, hle81, hl82, hw⟩
          unfold mend_checkPick_b2 at h
          first | refine ewp_live hl82 fun ρ116 => ?_ | rw [← hl82.eq]
          replace hs5 := hs5.mono hle81
          replace hs9 := hs9.mono hle81
          replace hs13 := hs13.mono hle81
          replace hs17 := hs17.mono hle81
          replace hs21 := hs21.mono hle81
          replace hk27 := hk27.mono hle81
          refine ewp_seq ?_
          refine ewp_region ?_
          refine el_val (v := (Value.bool (decide ((i111 : Int) < (p22.length : Int))))) (wanted_n rfl) rfl rfl (run_pev (v := (Value.bool (decide ((i111 : Int) < (p22.length : Int))))) rfl) ?_
          refine el_nil ?_
          refine ewp_seq ?_
          refine ewp_cond_t rfl (lt_len hx) ?_
          refine ewp_skip ?_
          refine ewp_seq ?_
          refine ewp_block ?_
          refine ewp_seq ?_
          refine ewp_region ?_
          refine el_val (v := (Value.int .i64 (i111 : Int))) (wanted_n rfl) rfl rfl (run_pev (v := (Value.int .i64 (i111 : Int))) rfl) ?_
          obtain ⟨b117, of118, es119, hA120, hc121, he122⟩ := arr_el hk27 (idx_nat hx)
          obtain rfl : es119 = _ := he122
          refine el_val (v := (Value.pointer (some (eAdr A23 (((i111 : Int)).toNat * 1))))) (wanted_n rfl) rfl rfl (run_idx te22 ts3 rfl hk27.len rfl (idx_nat hx) hA120) ?_
          refine el_val (v := (Value.int .i64 x112)) (wanted_n rfl) rfl rfl (run_load1 (ad := (eAdr A23 (((i111 : Int)).toNat * 1))) ta3 rfl (wd_arr 0 hw rfl hA120 (hc121 0 _ rfl))) ?_
          refine el_val (v := (Value.int .i64 (i111 : Int))) (wanted_n rfl) rfl rfl (run_pev (v := (Value.int .i64 (i111 : Int))) rfl) ?_
          refine el_val (v := (Value.int .i64 x112)) (wanted_n rfl) rfl rfl (run_pev (v := (Value.int .i64 x112)) rfl) ?_
          refine el_nil ?_
          refine ewp_seq ?_
          refine ewp_region ?_
          refine el_val (v := (Value.int .i64 x112)) (wanted_n rfl) rfl rfl (run_pev (v := (Value.int .i64 x112)) rfl) ?_
          refine el_val (v := (Value.pointer (some ⟨b69, 4, none⟩))) (wanted_n rfl) rfl rfl (run_fieldAddr tf26_4 (o := 0) rfl) ?_
          refine el_val (v := (Value.slice A18 n19 c20)) (wanted_n rfl) rfl rfl (run_load1 (ad := ⟨b69, 4, none⟩) ta24 rfl (wd_cell 1 hw rfl rfl)) ?_
          refine el_val (v := (Value.int .i64 (i111 : Int))) (wanted_n rfl) rfl rfl (run_pev (v := (Value.int .i64 (i111 : Int))) rfl) ?_
          obtain ⟨x123, hx124, h⟩ := bind_some h
          obtain ⟨b125, of126, es127, hA128, hc129, he130⟩ := sl_el hs21 hx124
          obtain ⟨A131, n132, c133, rfl, hs134⟩ := fS_mend_Choice.op he130
          refine el_val (v := (Value.pointer (some (eAdr A18 (((i111 : Int)).toNat * 1))))) (wanted_n rfl) rfl rfl (run_idx te24 ts37 rfl hs21.len rfl hx124 hA128) ?_
          refine el_val (v := (Value.pointer (some (eAdr A18 (((i111 : Int)).toNat * 1))))) (wanted_n rfl) rfl rfl (run_fieldEl tf37_0 rfl rfl rfl) ?_
          refine el_val (v := (Value.slice A131 n132 c133)) (wanted_n rfl) rfl rfl (run_load1 (ad := (eAdr A18 (((i111 : Int)).toNat * 1))) ta35 rfl (hw.fz (hc129 0 _ rfl))) ?_
          refine el_val (v := (Value.int .i64 (x123.Ways.length : Int))) (wanted_n rfl) rfl rfl (run_lenS te35 rfl hs134.len) ?_
          obtain ⟨x135, hx136, h⟩ := bind_some h
          refine el_call (wanted_n rfl) rfl rfl (run_call (vals := (List.toArray [(Value.int .i64 x112), (Value.int .i64 0), (Value.int .i64 (x123.Ways.length : Int))])) rfl cl37 rfl) (mend_within.calls hw  hx136) ?_
          rintro _ w139 ⟨f137, hle138, rfl, hw⟩
          replace hs5 := hs5.mono hle138
          replace hs9 := hs9.mono hle138
          replace hs13 := hs13.mono hle138
          replace hs17 := hs17.mono hle138
          replace hs21 := hs21.mono hle138
          replace hk27 := hk27.mono hle138
          replace hs134 := hs134.mono hle138
          replace hc129 := fun j v hv => hcell_le hle138 (hc129 j v hv)
          refine el_val (v := (Value.bool (!x135))) (wanted_n rfl) rfl rfl (run_pev (v := (Value.bool (!x135))) rfl) ?_
          refine el_nil ?_
          refine ewp_cond (!x135) rfl (fun hb140 => ?_) (fun hb140 => ?_)
          · replace h := ifb_t hb140 h
            refine ewp_seq ?_
            refine ewp_region ?_
            refine el_val (v := (Value.int .i64 2)) (wanted_n rfl) rfl rfl (run_pev (v := (Value.int .i64 2)) rfl) ?_
            refine el_nil ?_
            refine ewp_ret ?_
            replace hw := hw.drop_1
            obtain rfl := Option.some.inj h
            refine ⟨_, rfl, fun hf => ⟨_, hf, fun hr => ?_⟩⟩
            subst hr
            exact ⟨_, res1 rfl, f137, (HP.le_trans (HP.le_trans hle75 hle81) hle138), rfl, hw⟩
          · replace h := ifb_f hb140 h
            refine ewp_skip ?_
            refine ewp_region ?_
            refine el_val (v := (Value.int .i64 (w64 ((i111 : Int) + 1)))) (wanted_n rfl) rfl rfl (run_pev (v := (Value.int .i64 (w64 ((i111 : Int) + 1)))) rfl) ?_
            refine el_val (v := (Value.int .i64 (w64 ((i111 : Int) + 1)))) (wanted_n rfl) rfl rfl (run_pev (v := (Value.int .i64 (w64 ((i111 : Int) + 1)))) rfl) ?_
            refine el_nil ?_
            obtain rfl := Option.some.inj h
            exact ⟨_, rfl, f137, (HP.le_trans hle81 hle138), ⟨rfl, rfl, rfl, (congrArg (Value.int .i64) (succ_w64 hk27.room hx)), trivial⟩, hw⟩
        · rintro s79 ρ141 w142 hfin143 ⟨f80, hle81, hl82, hw⟩
          first | refine ewp_live hl82 fun ρ144 => ?_ | rw [← hl82.eq]
          replace hs5 := hs5.mono hle81
          replace hs9 := hs9.mono hle81
          replace hs13 := hs13.mono hle81
          replace hs17 := hs17.mono hle81
          replace hs21 := hs21.mono hle81
          replace hk27 := hk27.mono hle81
          refine ewp_seq ?_
          refine ewp_region ?_
          refine el_val (v := (Value.bool (decide ((p22.length : Int) < (p22.length : Int))))) (wanted_n rfl) rfl rfl (run_pev (v := (Value.bool (decide ((p22.length : Int) < (p22.length : Int))))) rfl) ?_
          refine el_nil ?_
          refine ewp_seq ?_
          refine ewp_cond_f rfl (nlt_self _) ?_
          refine ewp_exit ?_
          exact ⟨s79, hfin143, f80, hle81, trivial, hw⟩
      · rintro ρ145 w146 ⟨s79, rfl, f80, hle81, hl82, hw⟩
        replace h := on_go h
        first | refine ewp_live hl82 fun ρ147 => ?_ | rw [← hl82.eq]
        replace hs5 := hs5.mono hle81
        replace hs9 := hs9.mono hle81
        replace hs13 := hs13.mono hle81
        replace hs17 := hs17.mono hle81
        replace hs21 := hs21.mono hle81
        replace hk27 := hk27.mono hle81
        refine ewp_seq ?_
        refine ewp_region ?_
        refine el_val (v := (Value.int .i64 0)) (wanted_n rfl) rfl rfl (run_pev (v := (Value.int .i64 0)) rfl) ?_
        refine el_nil ?_
        refine ewp_ret ?_
        replace hw := hw.drop_1
        obtain rfl := Option.some.inj h
        exact ⟨_, res1 rfl, f80, (HP.le_trans hle75 hle81), rfl, hw⟩
      · rintro ρ148 w149 ⟨x150, rfl, hq151⟩
        replace h := on_out h
        obtain rfl := Option.some.inj h
        exact hq151 rfl
      · exact fun _ _ _ h => h.elim
def slices_Clone_int_int (p1 : List Int) : Option (List Int) :=
  ((gapp 8 ([] : List Int) p1).bind fun (x33 : List Int) => (some x33))
def slices_Clone_int_int.R (G : World) (f : HP) (L : List HProp) (A2 : Option Addr) (n3 : Nat) (c4 : Nat) (p1 : List Int) (r : List Int) : Value → World → Prop := fun v' w' =>
  ∃ (f' : HP) (A19 : Option Addr) (n20 : Nat) (c21 : Nat) (cur22 : Array Value), HP.le f f' ∧ v' = (Value.slice A19 n20 c21) ∧ ArrOk f' (fInt .i64) A19 n20 c21 cur22 r ∧ Wd G w' f' (Arr A19 c21 cur22 :: L)
theorem slices_Clone_int_int.calls {G w : World} {f : HP} {L : List HProp} {A2 : Option Addr} {n3 : Nat} {c4 : Nat} {p1 : List Int} (hw : Wd G w f (L)) (hs5 : SlF f (fInt .i64) A2 n3 c4 p1) {r : List Int} (h : slices_Clone_int_int p1 = some r) :
    Calls Try.prog 12 #[(Value.slice A2 n3 c4)] w (Returns (slices_Clone_int_int.R G f L A2 n3 c4 p1 r)) := by
  unfold slices_Clone_int_int at h
  refine ecalls 8 Try.func12 rfl rfl ?_
  rcases A2 with _ | A2
  · have hnil : p1 = [] := slf_none hs5
    replace h : some ([] : List Int) = some r := gapp_nil hnil h
    refine ewp_seq ?_
    refine ewp_region ?_
    refine el_val (v := (Value.slice none 0 0)) (wanted_n rfl) rfl rfl (run_pev (v := (Value.slice none 0 0)) rfl) ?_
    refine el_nil ?_
    refine ewp_seq ?_
    refine ewp_seq ?_
    refine ewp_region ?_
    refine el_val (v := (Value.slice none n3 c4)) (wanted_n rfl) rfl rfl (run_pev (v := (Value.slice none n3 c4)) rfl) ?_
    refine el_val (v := (Value.bool true)) (wanted_n rfl) rfl rfl (run_slCmp false rfl te22 rfl rfl (Or.inr rfl) rfl) ?_
    refine el_nil ?_
    refine ewp_cond_t rfl rfl ?_
    refine ewp_seq ?_
    refine ewp_region ?_
    refine el_val (v := (Value.slice none 0 0)) (wanted_n rfl) rfl rfl (run_pev (v := (Value.slice none 0 0)) rfl) ?_
    refine el_nil ?_
    refine ewp_ret ?_
    obtain ⟨hk26, hw⟩ := wd_arrNil (E := fInt .i64) hw
    obtain rfl := Option.some.inj h
    exact ⟨_, res1 rfl, f, none, 0, 0, (#[]), (HP.le_refl _), rfl, hk26, hw⟩
  · refine ewp_seq ?_
    refine ewp_region ?_
    refine el_val (v := (Value.slice none 0 0)) (wanted_n rfl) rfl rfl (run_pev (v := (Value.slice none 0 0)) rfl) ?_
    refine el_nil ?_
    refine ewp_seq ?_
    refine ewp_seq ?_
    refine ewp_region ?_
    refine el_val (v := (Value.slice (some A2) n3 c4)) (wanted_n rfl) rfl rfl (run_pev (v := (Value.slice (some A2) n3 c4)) rfl) ?_
    refine el_val (v := (Value.bool false)) (wanted_n rfl) rfl rfl (run_slCmp false rfl te22 rfl rfl (Or.inr rfl) rfl) ?_
    refine el_nil ?_
    refine ewp_cond_f rfl rfl ?_
    refine ewp_skip ?_
    refine ewp_seq ?_
    refine ewp_region ?_
    refine el_exv (wanted_n rfl) rfl rfl (run_buildSliceE (parts := []) (cs := []) te22 ts3 tz3 rfl tm3_0 rfl hw) ?_
    rintro w30 _ ⟨b28, rfl, hw⟩
    obtain ⟨cur31, hk32, hw⟩ := wd_arrL (E := fInt .i64) (ess := []) (xs := ([] : List Int)) trivial rfl (by decide) hw
    refine el_val (v := (Value.slice (some A2) n3 c4)) (wanted_n rfl) rfl rfl (run_pev (v := (Value.slice (some A2) n3 c4)) rfl) ?_
    obtain ⟨x33, hx34, h⟩ := bind_some h
    refine el_exv (wanted_n rfl) rfl rfl (run_arrAppF (E := fInt .i64) tA22 hw hk32 rfl rfl hs5.len hs5 hx34) ?_
    rintro w40 _ ⟨A35, n36, c37, cur38, rfl, hk39, hw⟩
    refine el_val (v := (Value.slice A35 n36 c37)) (wanted_n rfl) rfl rfl (run_pev (v := (Value.slice A35 n36 c37)) rfl) ?_
    refine el_nil ?_
    refine ewp_ret ?_
    obtain rfl := Option.some.inj h
    exact ⟨_, res1 rfl, f, A35, n36, c37, cur38, (HP.le_refl _), rfl, hk39, hw⟩
def slices_Clone_int_int_v2.R (G : World) (f : HP) (L : List HProp) (A2 : Option Addr) (n3 : Nat) (c4 : Nat) (cur5 : Array Value) (p1 : List Int) (r : List Int) : Value → World → Prop := fun v' w' =>
  ∃ (f' : HP) (A21 : Option Addr) (n22 : Nat) (c23 : Nat) (cur24 : Array Value), HP.le f f' ∧ v' = (Value.slice A21 n22 c23) ∧ ArrOk f' (fInt .i64) A21 n22 c23 cur24 r ∧ Wd G w' f' (Arr A21 c23 cur24 :: Arr A2 c4 cur5 :: L)
theorem slices_Clone_int_int_v2.calls {G w : World} {f : HP} {L : List HProp} {A2 : Option Addr} {n3 : Nat} {c4 : Nat} {cur5 : Array Value} {p1 : List Int} (hw : Wd G w f (Arr A2 c4 cur5 :: L)) (hk6 : ArrOk f (fInt .i64) A2 n3 c4 cur5 p1) {r : List Int} (h : slices_Clone_int_int p1 = some r) :
    Calls Try.prog 12 #[(Value.slice A2 n3 c4)] w (Returns (slices_Clone_int_int_v2.R G f L A2 n3 c4 cur5 p1 r)) := by
  unfold slices_Clone_int_int at h
  refine ecalls 8 Try.func12 rfl rfl ?_
  rcases A2 with _ | A2
  · have hnil : p1 = [] := arr_none hk6
    replace h : some ([] : List Int) = some r := gapp_nil hnil h
    refine ewp_seq ?_
    refine ewp_region ?_
    refine el_val (v := (Value.slice none 0 0)) (wanted_n rfl) rfl rfl (run_pev (v := (Value.slice none 0 0)) rfl) ?_
    refine el_nil ?_
    refine ewp_seq ?_
    refine ewp_seq ?_
    refine ewp_region ?_
    refine el_val (v := (Value.slice none n3 c4)) (wanted_n rfl) rfl rfl (run_pev (v := (Value.slice none n3 c4)) rfl) ?_
    refine el_val (v := (Value.bool true)) (wanted_n rfl) rfl rfl (run_slCmp false rfl te22 rfl rfl (Or.inr rfl) rfl) ?_
    refine el_nil ?_
    refine ewp_cond_t rfl rfl ?_
    refine ewp_seq ?_
    refine ewp_region ?_
    refine el_val (v := (Value.slice none 0 0)) (wanted_n rfl) rfl rfl (run_pev (v := (Value.slice none 0 0)) rfl) ?_
    refine el_nil ?_
    refine ewp_ret ?_
    obtain ⟨hk28, hw⟩ := wd_arrNil (E := fInt .i64) hw
    obtain rfl := Option.some.inj h
    exact ⟨_, res1 rfl, f, none, 0, 0, (#[]), (HP.le_refl _), rfl, hk28, hw⟩
  · refine ewp_seq ?_
    refine ewp_region ?_
    refine el_val (v := (Value.slice none 0 0)) (wanted_n rfl) rfl rfl (run_pev (v := (Value.slice none 0 0)) rfl) ?_
    refine el_nil ?_
    refine ewp_seq ?_
    refine ewp_seq ?_
    refine ewp_region ?_
    refine el_val (v := (Value.slice (some A2) n3 c4)) (wanted_n rfl) rfl rfl (run_pev (v := (Value.slice (some A2) n3 c4)) rfl) ?_
    refine el_val (v := (Value.bool false)) (wanted_n rfl) rfl rfl (run_slCmp false rfl te22 rfl rfl (Or.inr rfl) rfl) ?_
    refine el_nil ?_
    refine ewp_cond_f rfl rfl ?_
    refine ewp_skip ?_
    refine ewp_seq ?_
    refine ewp_region ?_
    refine el_exv (wanted_n rfl) rfl rfl (run_buildSliceE (parts := []) (cs := []) te22 ts3 tz3 rfl tm3_0 rfl hw) ?_
    rintro w32 _ ⟨b30, rfl, hw⟩
    obtain ⟨cur33, hk34, hw⟩ := wd_arrL (E := fInt .i64) (ess := []) (xs := ([] : List Int)) trivial rfl (by decide) hw
    refine el_val (v := (Value.slice (some A2) n3 c4)) (wanted_n rfl) rfl rfl (run_pev (v := (Value.slice (some A2) n3 c4)) rfl) ?_
    obtain ⟨x35, hx36, h⟩ := bind_some h
    replace hw := hw.front1
    replace hw := hw.front1
    refine el_exv (wanted_n rfl) rfl rfl (run_arrAppA (E := fInt .i64) tA22 hw hk34 rfl rfl hk6 hx36) ?_
    rintro w42 _ ⟨A37, n38, c39, cur40, rfl, hk41, hw⟩
    refine el_val (v := (Value.slice A37 n38 c39)) (wanted_n rfl) rfl rfl (run_pev (v := (Value.slice A37 n38 c39)) rfl) ?_
    refine el_nil ?_
    refine ewp_ret ?_
    obtain rfl := Option.some.inj h
    exact ⟨_, res1 rfl, f, A37, n38, c39, cur40, (HP.le_refl _), rfl, hk41, hw⟩
def slices_Clone_mend_Arc_mend_Arc (p1 : List (List S_mend_Arc)) : Option (List (List S_mend_Arc)) :=
  ((gapp 24 ([] : List (List S_mend_Arc)) p1).bind fun (x35 : List (List S_mend_Arc)) => (some x35))
def slices_Clone_mend_Arc_mend_Arc.R (G : World) (f : HP) (L : List HProp) (A2 : Option Addr) (n3 : Nat) (c4 : Nat) (cur5 : Array Value) (p1 : List (List S_mend_Arc)) (r : List (List S_mend_Arc)) : Value → World → Prop := fun v' w' =>
  ∃ (f' : HP) (A21 : Option Addr) (n22 : Nat) (c23 : Nat) (cur24 : Array Value), HP.le f f' ∧ v' = (Value.slice A21 n22 c23) ∧ ArrOk f' (fSl fS_mend_Arc) A21 n22 c23 cur24 r ∧ Wd G w' f' (Arr A21 c23 cur24 :: Arr A2 c4 cur5 :: L)
theorem slices_Clone_mend_Arc_mend_Arc.calls {G w : World} {f : HP} {L : List HProp} {A2 : Option Addr} {n3 : Nat} {c4 : Nat} {cur5 : Array Value} {p1 : List (List S_mend_Arc)} (hw : Wd G w f (Arr A2 c4 cur5 :: L)) (hk6 : ArrOk f (fSl fS_mend_Arc) A2 n3 c4 cur5 p1) {r : List (List S_mend_Arc)} (h : slices_Clone_mend_Arc_mend_Arc p1 = some r) :
    Calls Try.prog 60 #[(Value.slice A2 n3 c4)] w (Returns (slices_Clone_mend_Arc_mend_Arc.R G f L A2 n3 c4 cur5 p1 r)) := by
  unfold slices_Clone_mend_Arc_mend_Arc at h
  refine ecalls 8 Try.func60 rfl rfl ?_
  rcases A2 with _ | A2
  · have hnil : p1 = [] := arr_none hk6
    replace h : some ([] : List (List S_mend_Arc)) = some r := gapp_nil hnil h
    refine ewp_seq ?_
    refine ewp_region ?_
    refine el_val (v := (Value.slice none 0 0)) (wanted_n rfl) rfl rfl (run_pev (v := (Value.slice none 0 0)) rfl) ?_
    refine el_nil ?_
    refine ewp_seq ?_
    refine ewp_seq ?_
    refine ewp_region ?_
    refine el_val (v := (Value.slice none n3 c4)) (wanted_n rfl) rfl rfl (run_pev (v := (Value.slice none n3 c4)) rfl) ?_
    refine el_val (v := (Value.bool true)) (wanted_n rfl) rfl rfl (run_slCmp false rfl te35 rfl rfl (Or.inr rfl) rfl) ?_
    refine el_nil ?_
    refine ewp_cond_t rfl rfl ?_
    refine ewp_seq ?_
    refine ewp_region ?_
    refine el_val (v := (Value.slice none 0 0)) (wanted_n rfl) rfl rfl (run_pev (v := (Value.slice none 0 0)) rfl) ?_
    refine el_nil ?_
    refine ewp_ret ?_
    obtain ⟨hk28, hw⟩ := wd_arrNil (E := fSl fS_mend_Arc) hw
    obtain rfl := Option.some.inj h
    exact ⟨_, res1 rfl, f, none, 0, 0, (#[]), (HP.le_refl _), rfl, hk28, hw⟩
  · refine ewp_seq ?_
    refine ewp_region ?_
    refine el_val (v := (Value.slice none 0 0)) (wanted_n rfl) rfl rfl (run_pev (v := (Value.slice none 0 0)) rfl) ?_
    refine el_nil ?_
    refine ewp_seq ?_
    refine ewp_seq ?_
    refine ewp_region ?_
    refine el_val (v := (Value.slice (some A2) n3 c4)) (wanted_n rfl) rfl rfl (run_pev (v := (Value.slice (some A2) n3 c4)) rfl) ?_
    refine el_val (v := (Value.bool false)) (wanted_n rfl) rfl rfl (run_slCmp false rfl te35 rfl rfl (Or.inr rfl) rfl) ?_
    refine el_nil ?_
    refine ewp_cond_f rfl rfl ?_
    refine ewp_skip ?_
    refine ewp_seq ?_
    refine ewp_region ?_
    refine el_exv (wanted_n rfl) rfl rfl (run_buildSliceE (parts := []) (cs := []) te35 ts23 tz23 rfl tm23_0 rfl hw) ?_
    rintro w32 _ ⟨b30, rfl, hw⟩
    obtain ⟨cur33, hk34, hw⟩ := wd_arrL (E := fSl fS_mend_Arc) (ess := []) (xs := ([] : List (List S_mend_Arc))) trivial rfl (by decide) hw
    refine el_val (v := (Value.slice (some A2) n3 c4)) (wanted_n rfl) rfl rfl (run_pev (v := (Value.slice (some A2) n3 c4)) rfl) ?_
    obtain ⟨x35, hx36, h⟩ := bind_some h
    replace hw := hw.front1
    replace hw := hw.front1
    refine el_exv (wanted_n rfl) rfl rfl (run_arrAppA (E := fSl fS_mend_Arc) tA35 hw hk34 rfl rfl hk6 hx36) ?_
    rintro w42 _ ⟨A37, n38, c39, cur40, rfl, hk41, hw⟩
    refine el_val (v := (Value.slice A37 n38 c39)) (wanted_n rfl) rfl rfl (run_pev (v := (Value.slice A37 n38 c39)) rfl) ?_
    refine el_nil ?_
    refine ewp_ret ?_
    obtain rfl := Option.some.inj h
    exact ⟨_, res1 rfl, f, A37, n38, c39, cur40, (HP.le_refl _), rfl, hk41, hw⟩
def slices_Clone_mend_Arc_mend_Arc_v2 (p1 : List S_mend_Arc) : Option (List S_mend_Arc) :=
  ((gapp 24 ([] : List S_mend_Arc) p1).bind fun (x33 : List S_mend_Arc) => (some x33))
def slices_Clone_mend_Arc_mend_Arc_v2.R (G : World) (f : HP) (L : List HProp) (A2 : Option Addr) (n3 : Nat) (c4 : Nat) (p1 : List S_mend_Arc) (r : List S_mend_Arc) : Value → World → Prop := fun v' w' =>
  ∃ (f' : HP) (A19 : Option Addr) (n20 : Nat) (c21 : Nat) (cur22 : Array Value), HP.le f f' ∧ v' = (Value.slice A19 n20 c21) ∧ ArrOk f' fS_mend_Arc A19 n20 c21 cur22 r ∧ Wd G w' f' (Arr A19 c21 cur22 :: L)
theorem slices_Clone_mend_Arc_mend_Arc_v2.calls {G w : World} {f : HP} {L : List HProp} {A2 : Option Addr} {n3 : Nat} {c4 : Nat} {p1 : List S_mend_Arc} (hw : Wd G w f (L)) (hs5 : SlF f fS_mend_Arc A2 n3 c4 p1) {r : List S_mend_Arc} (h : slices_Clone_mend_Arc_mend_Arc_v2 p1 = some r) :
    Calls Try.prog 11 #[(Value.slice A2 n3 c4)] w (Returns (slices_Clone_mend_Arc_mend_Arc_v2.R G f L A2 n3 c4 p1 r)) := by
  unfold slices_Clone_mend_Arc_mend_Arc_v2 at h
  refine ecalls 8 Try.func11 rfl rfl ?_
  rcases A2 with _ | A2
  · have hnil : p1 = [] := slf_none hs5
    replace h : some ([] : List S_mend_Arc) = some r := gapp_nil hnil h
    refine ewp_seq ?_
    refine ewp_region ?_
    refine el_val (v := (Value.slice none 0 0)) (wanted_n rfl) rfl rfl (run_pev (v := (Value.slice none 0 0)) rfl) ?_
    refine el_nil ?_
    refine ewp_seq ?_
    refine ewp_seq ?_
    refine ewp_region ?_
    refine el_val (v := (Value.slice none n3 c4)) (wanted_n rfl) rfl rfl (run_pev (v := (Value.slice none n3 c4)) rfl) ?_
    refine el_val (v := (Value.bool true)) (wanted_n rfl) rfl rfl (run_slCmp false rfl te23 rfl rfl (Or.inr rfl) rfl) ?_
    refine el_nil ?_
    refine ewp_cond_t rfl rfl ?_
    refine ewp_seq ?_
    refine ewp_region ?_
    refine el_val (v := (Value.slice none 0 0)) (wanted_n rfl) rfl rfl (run_pev (v := (Value.slice none 0 0)) rfl) ?_
    refine el_nil ?_
    refine ewp_ret ?_
    obtain ⟨hk26, hw⟩ := wd_arrNil (E := fS_mend_Arc) hw
    obtain rfl := Option.some.inj h
    exact ⟨_, res1 rfl, f, none, 0, 0, (#[]), (HP.le_refl _), rfl, hk26, hw⟩
  · refine ewp_seq ?_
    refine ewp_region ?_
    refine el_val (v := (Value.slice none 0 0)) (wanted_n rfl) rfl rfl (run_pev (v := (Value.slice none 0 0)) rfl) ?_
    refine el_nil ?_
    refine ewp_seq ?_
    refine ewp_seq ?_
    refine ewp_region ?_
    refine el_val (v := (Value.slice (some A2) n3 c4)) (wanted_n rfl) rfl rfl (run_pev (v := (Value.slice (some A2) n3 c4)) rfl) ?_
    refine el_val (v := (Value.bool false)) (wanted_n rfl) rfl rfl (run_slCmp false rfl te23 rfl rfl (Or.inr rfl) rfl) ?_
    refine el_nil ?_
    refine ewp_cond_f rfl rfl ?_
    refine ewp_skip ?_
    refine ewp_seq ?_
    refine ewp_region ?_
    refine el_exv (wanted_n rfl) rfl rfl (run_buildSliceE (parts := []) (cs := []) te23 ts34 tz34 rfl tm34_0 rfl hw) ?_
    rintro w30 _ ⟨b28, rfl, hw⟩
    obtain ⟨cur31, hk32, hw⟩ := wd_arrL (E := fS_mend_Arc) (ess := []) (xs := ([] : List S_mend_Arc)) trivial rfl (by decide) hw
    refine el_val (v := (Value.slice (some A2) n3 c4)) (wanted_n rfl) rfl rfl (run_pev (v := (Value.slice (some A2) n3 c4)) rfl) ?_
    obtain ⟨x33, hx34, h⟩ := bind_some h
    refine el_exv (wanted_n rfl) rfl rfl (run_arrAppF (E := fS_mend_Arc) tA23 hw hk32 rfl rfl hs5.len hs5 hx34) ?_
    rintro w40 _ ⟨A35, n36, c37, cur38, rfl, hk39, hw⟩
    refine el_val (v := (Value.slice A35 n36 c37)) (wanted_n rfl) rfl rfl (run_pev (v := (Value.slice A35 n36 c37)) rfl) ?_
    refine el_nil ?_
    refine ewp_ret ?_
    obtain rfl := Option.some.inj h
    exact ⟨_, res1 rfl, f, A35, n36, c37, cur38, (HP.le_refl _), rfl, hk39, hw⟩
def mend_solver_with_1_v2 (p1 : S_mend_Arc) (p6 : List Int) (p13 : List Int) (p18 : List (List S_mend_Arc)) (p27 : List Int) (p36 : Bool) (p39 : List Bool) (p48 : List Int) : Option (List Int × List Int × Bool × List Bool × List Int) :=
  ((idx p6 p1.From).bind fun (x202 : Int) => ((idx p6 p1.To).bind fun (x218 : Int) => (ifb (decide ((w64 (x202 + p1.Len)) ≤ x218)) (some (p6, p27, p36, p39, p48)) ((idx p27 p1.To).bind fun (x245 : Int) => ((ifb p36 ((idx p13 p1.To).bind fun (x354 : Int) => (ifb (decide (x354 < 0)) (ifb (decide ((w64 (x202 + p1.Len)) ≤ 1099511627776)) ((idx (setI p27 p1.To (w64 (x245 + 1))) p1.To).bind fun (x364 : Int) => (some (decide (x364 ≤ 65536)))) (some false)) (ifb (decide ((w64 (x202 + p1.Len)) ≤ x354)) (ifb (decide ((w64 (x202 + p1.Len)) ≤ 1099511627776)) ((idx (setI p27 p1.To (w64 (x245 + 1))) p1.To).bind fun (x382 : Int) => (some (decide (x382 ≤ 65536)))) (some false)) (some false)))) (some false)).bind fun (s307 : Bool) => ((idx p39 p1.To).bind fun (x397 : Bool) => (ifb (!x397) ((gapp 8 p48 [p1.To]).bind fun (x418 : List Int) => (some ((setI p6 p1.To (w64 (x202 + p1.Len))), (setI p27 p1.To (w64 (x245 + 1))), s307, (setI p39 p1.To true), x418))) (some ((setI p6 p1.To (w64 (x202 + p1.Len))), (setI p27 p1.To (w64 (x245 + 1))), s307, p39, p48)))))))))
def mend_solver_with_1_v2.R (G : World) (f : HP) (L : List HProp) (b2 : Nat) (b4 : Nat) (A7 : Option Addr) (n8 : Nat) (c9 : Nat) (cur10 : Array Value) (A14 : Option Addr) (n15 : Nat) (c16 : Nat) (A19 : Option Addr) (n20 : Nat) (c21 : Nat) (cur22 : Array Value) (b25 : Nat) (A28 : Option Addr) (n29 : Nat) (c30 : Nat) (cur31 : Array Value) (b34 : Nat) (b37 : Nat) (A40 : Option Addr) (n41 : Nat) (c42 : Nat) (cur43 : Array Value) (b46 : Nat) (A49 : Option Addr) (n50 : Nat) (c51 : Nat) (cur52 : Array Value) (p1 : S_mend_Arc) (p6 : List Int) (p13 : List Int) (p18 : List (List S_mend_Arc)) (p27 : List Int) (p36 : Bool) (p39 : List Bool) (p48 : List Int) (r : List Int × List Int × Bool × List Bool × List Int) : Value → World → Prop := fun v' w' =>
  ∃ (f' : HP) (cur181 : Array Value) (cur183 : Array Value) (cur185 : Array Value) (A188 : Option Addr) (n189 : Nat) (c190 : Nat) (cur187 : Array Value), HP.le f f' ∧ v' = (Value.tuple #[]) ∧ ArrOk f' (fInt .i64) A7 n8 c9 cur181 r.1 ∧ ArrOk f' (fInt .i64) A28 n29 c30 cur183 r.2.1 ∧ ArrOk f' fBool A40 n41 c42 cur185 r.2.2.2.1 ∧ ArrOk f' (fInt .i64) A188 n189 c190 cur187 r.2.2.2.2 ∧ Wd G w' f' (Blk b2 (.cells (List.toArray [(Value.pointer (some ⟨b4, 0, none⟩))]) 69 (0, 0)) :: Blk b4 (.cells (List.toArray [(Value.slice A7 n8 c9), (Value.slice A14 n15 c16), (Value.slice A19 n20 c21)]) 73 (0, 0)) :: Arr A7 c9 cur181 :: Arr A19 c21 cur22 :: Blk b25 (.cells (List.toArray [(Value.slice A28 n29 c30)]) 22 (0, 0)) :: Arr A28 c30 cur183 :: Blk b34 (.cells (List.toArray [(Value.bool r.2.2.1)]) 4 (0, 0)) :: Blk b37 (.cells (List.toArray [(Value.slice A40 n41 c42)]) 88 (0, 0)) :: Arr A40 c42 cur185 :: Blk b46 (.cells (List.toArray [(Value.slice A188 n189 c190)]) 22 (0, 0)) :: Arr A188 c190 cur187 :: L)
theorem mend_solver_with_1_v2.calls {G w : World} {f : HP} {L : List HProp} {b2 : Nat} {b4 : Nat} {A7 : Option Addr} {n8 : Nat} {c9 : Nat} {cur10 : Array Value} {A14 : Option Addr} {n15 : Nat} {c16 : Nat} {A19 : Option Addr} {n20 : Nat} {c21 : Nat} {cur22 : Array Value} {b25 : Nat} {A28 : Option Addr} {n29 : Nat} {c30 : Nat} {cur31 : Array Value} {b34 : Nat} {b37 : Nat} {A40 : Option Addr} {n41 : Nat} {c42 : Nat} {cur43 : Array Value} {b46 : Nat} {A49 : Option Addr} {n50 : Nat} {c51 : Nat} {cur52 : Array Value} {p1 : S_mend_Arc} {p6 : List Int} {p13 : List Int} {p18 : List (List S_mend_Arc)} {p27 : List Int} {p36 : Bool} {p39 : List Bool} {p48 : List Int} (hw : Wd G w f (Blk b2 (.cells (List.toArray [(Value.pointer (some ⟨b4, 0, none⟩))]) 69 (0, 0)) :: Blk b4 (.cells (List.toArray [(Value.slice A7 n8 c9), (Value.slice A14 n15 c16), (Value.slice A19 n20 c21)]) 73 (0, 0)) :: Arr A7 c9 cur10 :: Arr A19 c21 cur22 :: Blk b25 (.cells (List.toArray [(Value.slice A28 n29 c30)]) 22 (0, 0)) :: Arr A28 c30 cur31 :: Blk b34 (.cells (List.toArray [(Value.bool p36)]) 4 (0, 0)) :: Blk b37 (.cells (List.toArray [(Value.slice A40 n41 c42)]) 88 (0, 0)) :: Arr A40 c42 cur43 :: Blk b46 (.cells (List.toArray [(Value.slice A49 n50 c51)]) 22 (0, 0)) :: Arr A49 c51 cur52 :: L)) (hk11 : ArrOk f (fInt .i64) A7 n8 c9 cur10 p6) (hs17 : SlF f (fInt .i64) A14 n15 c16 p13) (hk23 : ArrOk f (fSl fS_mend_Arc) A19 n20 c21 cur22 p18) (hk32 : ArrOk f (fInt .i64) A28 n29 c30 cur31 p27) (hk44 : ArrOk f fBool A40 n41 c42 cur43 p39) (hk53 : ArrOk f (fInt .i64) A49 n50 c51 cur52 p48) {r : List Int × List Int × Bool × List Bool × List Int} (h : mend_solver_with_1_v2 p1 p6 p13 p18 p27 p36 p39 p48 = some r) :
    Calls Try.prog 61 #[(Value.agg #[(Value.int .i64 p1.From), (Value.int .i64 p1.To), (Value.int .i64 p1.Len)]), (Value.pointer (some ⟨b2, 0, none⟩)), (Value.pointer (some ⟨b25, 0, none⟩)), (Value.pointer (some ⟨b34, 0, none⟩)), (Value.pointer (some ⟨b37, 0, none⟩)), (Value.pointer (some ⟨b46, 0, none⟩))] w (Returns (mend_solver_with_1_v2.R G f L b2 b4 A7 n8 c9 cur10 A14 n15 c16 A19 n20 c21 cur22 b25 A28 n29 c30 cur31 b34 b37 A40 n41 c42 cur43 b46 A49 n50 c51 cur52 p1 p6 p13 p18 p27 p36 p39 p48 r)) := by
  unfold mend_solver_with_1_v2 at h
  refine ecalls 95 Try.func61 rfl rfl ?_
  refine ewp_seq ?_
  refine ewp_region ?_
  refine el_exv (wanted_n rfl) rfl rfl (run_boxE (cs := [(Value.int .i64 p1.From), (Value.int .i64 p1.To), (Value.int .i64 p1.Len)]) rfl rfl hw) ?_
  rintro w193 _ ⟨b191, rfl, hw⟩
  refine el_nil ?_
  refine ewp_seq ?_
  refine ewp_draw (SW G f (Blk b191 (.cells (List.toArray [(Value.int .i64 p1.From), (Value.int .i64 p1.To), (Value.int .i64 p1.Len)]) 34 (0, 0)) :: Blk b2 (.cells (List.toArray [(Value.pointer (some ⟨b4, 0, none⟩))]) 69 (0, 0)) :: Blk b4 (.cells (List.toArray [(Value.slice A7 n8 c9), (Value.slice A14 n15 c16), (Value.slice A19 n20 c21)]) 73 (0, 0)) :: Arr A7 c9 cur10 :: Arr A19 c21 cur22 :: Blk b25 (.cells (List.toArray [(Value.slice A28 n29 c30)]) 22 (0, 0)) :: Arr A28 c30 cur31 :: Blk b34 (.cells (List.toArray [(Value.bool p36)]) 4 (0, 0)) :: Blk b37 (.cells (List.toArray [(Value.slice A40 n41 c42)]) 88 (0, 0)) :: Arr A40 c42 cur43 :: Blk b46 (.cells (List.toArray [(Value.slice A49 n50 c51)]) 22 (0, 0)) :: Arr A49 c51 cur52 :: L)) [] 11 mixed ?_
  replace hw := hw.drew
  have hS := SW.of hw
  refine et_first (i := 0) (v := (Value.pointer (some ⟨b4, 0, none⟩))) rfl (by kernel_rfl) (fun _ _ _ h => h) rfl rfl (.inl ⟨(wanted_n rfl), fun w9 ⟨f9, hl9, h9⟩ => run_load1 (ad := ⟨b2, 0, none⟩) ta69 rfl (wd_cell 1 h9 rfl rfl)⟩) hS ?_
  refine et_pure (i := 1) (v := (Value.pointer (some ⟨b4, 0, none⟩))) rfl (by kernel_rfl) (fun _ _ _ h => h) rfl rfl (.inl ⟨(wanted_n rfl), fun _ => run_pev (v := (Value.pointer (some ⟨b4, 0, none⟩))) rfl⟩) ?_
  refine et_pure (i := 2) (v := (Value.pointer (some ⟨b4, 0, none⟩))) rfl (by kernel_rfl) (fun _ _ _ h => h) rfl rfl (.inl ⟨(wanted_n rfl), fun _ => run_fieldAddr tf73_0 (o := 0) rfl⟩) ?_
  refine et_first (i := 3) (v := (Value.slice A7 n8 c9)) rfl (by kernel_rfl) (fun _ _ _ h => h) rfl rfl (.inl ⟨(wanted_n rfl), fun w9 ⟨f9, hl9, h9⟩ => run_load1 (ad := ⟨b4, 0, none⟩) ta22 rfl (wd_cell 2 h9 rfl rfl)⟩) hS ?_
  refine et_pure (i := 4) (v := (Value.pointer (some ⟨b191, 0, none⟩))) rfl (by kernel_rfl) (fun _ _ _ h => h) rfl rfl (.inl ⟨(wanted_n rfl), fun _ => run_fieldAddr tf34_0 (o := 0) rfl⟩) ?_
  refine et_first (i := 5) (v := (Value.int .i64 p1.From)) rfl (by kernel_rfl) (fun _ _ _ h => h) rfl rfl (.inl ⟨(wanted_n rfl), fun w9 ⟨f9, hl9, h9⟩ => run_load1 (ad := ⟨b191, 0, none⟩) ta3 rfl (wd_cell 0 h9 rfl rfl)⟩) hS ?_
  obtain ⟨x202, hx203, h⟩ := bind_some h
  obtain ⟨b204, of205, es206, hA207, hc208, he209⟩ := arr_el hk11 hx203
  obtain rfl : es206 = _ := he209
  refine et_pure (i := 6) (v := (Value.pointer (some (eAdr A7 ((p1.From).toNat * 1))))) rfl (by kernel_rfl) (fun _ _ _ h => h) rfl rfl (.inl ⟨(wanted_n rfl), fun _ => run_idx te22 ts3 rfl hk11.len rfl hx203 hA207⟩) ?_
  refine et_first (i := 7) (v := (Value.int .i64 x202)) rfl (by kernel_rfl) (fun _ _ _ h => h) rfl rfl (.inl ⟨(wanted_n rfl), fun w9 ⟨f9, hl9, h9⟩ => run_load1 (ad := (eAdr A7 ((p1.From).toNat * 1))) ta3 rfl (wd_arr 3 h9 rfl hA207 (hc208 0 _ rfl))⟩) hS ?_
  refine et_pure (i := 8) (v := (Value.pointer (some ⟨b191, 2, none⟩))) rfl (by kernel_rfl) (fun _ _ _ h => h) rfl rfl (.inl ⟨(wanted_n rfl), fun _ => run_fieldAddr tf34_2 (o := 0) rfl⟩) ?_
  refine et_first (i := 9) (v := (Value.int .i64 p1.Len)) rfl (by kernel_rfl) (fun _ _ _ h => h) rfl rfl (.inl ⟨(wanted_n rfl), fun w9 ⟨f9, hl9, h9⟩ => run_load1 (ad := ⟨b191, 2, none⟩) ta3 rfl (wd_cell 0 h9 rfl rfl)⟩) hS ?_
  refine et_pure (i := 10) (v := (Value.int .i64 (w64 (x202 + p1.Len)))) rfl (by kernel_rfl) (fun _ _ _ h => h) rfl rfl (.inl ⟨(wanted_n rfl), fun _ => run_pev (v := (Value.int .i64 (w64 (x202 + p1.Len)))) rfl⟩) ?_
  refine et_tail rfl ?_
  refine ey_one (i := 11) (by kernel_rfl) ?_
  refine eo_val (v := (Value.int .i64 (w64 (x202 + p1.Len)))) rfl (wanted_n rfl) rfl rfl (run_pev (v := (Value.int .i64 (w64 (x202 + p1.Len)))) rfl) ?_
  refine ey_done rfl ?_
  refine ewp_seq ?_
  refine ewp_seq ?_
  refine ewp_draw (SW G f (Blk b191 (.cells (List.toArray [(Value.int .i64 p1.From), (Value.int .i64 p1.To), (Value.int .i64 p1.Len)]) 34 (0, 0)) :: Blk b2 (.cells (List.toArray [(Value.pointer (some ⟨b4, 0, none⟩))]) 69 (0, 0)) :: Blk b4 (.cells (List.toArray [(Value.slice A7 n8 c9), (Value.slice A14 n15 c16), (Value.slice A19 n20 c21)]) 73 (0, 0)) :: Arr A7 c9 cur10 :: Arr A19 c21 cur22 :: Blk b25 (.cells (List.toArray [(Value.slice A28 n29 c30)]) 22 (0, 0)) :: Arr A28 c30 cur31 :: Blk b34 (.cells (List.toArray [(Value.bool p36)]) 4 (0, 0)) :: Blk b37 (.cells (List.toArray [(Value.slice A40 n41 c42)]) 88 (0, 0)) :: Arr A40 c42 cur43 :: Blk b46 (.cells (List.toArray [(Value.slice A49 n50 c51)]) 22 (0, 0)) :: Arr A49 c51 cur52 :: L)) [] 10 mixed ?_
  replace hw := hw.drew
  have hS := SW.of hw
  refine et_pure (i := 0) (v := (Value.int .i64 (w64 (x202 + p1.Len)))) rfl (by kernel_rfl) (fun _ _ _ h => h) rfl rfl (.inl ⟨(wanted_n rfl), fun _ => run_pev (v := (Value.int .i64 (w64 (x202 + p1.Len)))) rfl⟩) ?_
  refine et_first (i := 1) (v := (Value.pointer (some ⟨b4, 0, none⟩))) rfl (by kernel_rfl) (fun _ _ _ h => h) rfl rfl (.inl ⟨(wanted_n rfl), fun w9 ⟨f9, hl9, h9⟩ => run_load1 (ad := ⟨b2, 0, none⟩) ta69 rfl (wd_cell 1 h9 rfl rfl)⟩) hS ?_
  refine et_pure (i := 2) (v := (Value.pointer (some ⟨b4, 0, none⟩))) rfl (by kernel_rfl) (fun _ _ _ h => h) rfl rfl (.inl ⟨(wanted_n rfl), fun _ => run_pev (v := (Value.pointer (some ⟨b4, 0, none⟩))) rfl⟩) ?_
  refine et_pure (i := 3) (v := (Value.pointer (some ⟨b4, 0, none⟩))) rfl (by kernel_rfl) (fun _ _ _ h => h) rfl rfl (.inl ⟨(wanted_n rfl), fun _ => run_fieldAddr tf73_0 (o := 0) rfl⟩) ?_
  refine et_first (i := 4) (v := (Value.slice A7 n8 c9)) rfl (by kernel_rfl) (fun _ _ _ h => h) rfl rfl (.inl ⟨(wanted_n rfl), fun w9 ⟨f9, hl9, h9⟩ => run_load1 (ad := ⟨b4, 0, none⟩) ta22 rfl (wd_cell 2 h9 rfl rfl)⟩) hS ?_
  refine et_pure (i := 5) (v := (Value.pointer (some ⟨b191, 1, none⟩))) rfl (by kernel_rfl) (fun _ _ _ h => h) rfl rfl (.inl ⟨(wanted_n rfl), fun _ => run_fieldAddr tf34_1 (o := 0) rfl⟩) ?_
  refine et_first (i := 6) (v := (Value.int .i64 p1.To)) rfl (by kernel_rfl) (fun _ _ _ h => h) rfl rfl (.inl ⟨(wanted_n rfl), fun w9 ⟨f9, hl9, h9⟩ => run_load1 (ad := ⟨b191, 1, none⟩) ta3 rfl (wd_cell 0 h9 rfl rfl)⟩) hS ?_
  obtain ⟨x218, hx219, h⟩ := bind_some h
  obtain ⟨b220, of221, es222, hA223, hc224, he225⟩ := arr_el hk11 hx219
  obtain rfl : es222 = _ := he225
  refine et_pure (i := 7) (v := (Value.pointer (some (eAdr A7 ((p1.To).toNat * 1))))) rfl (by kernel_rfl) (fun _ _ _ h => h) rfl rfl (.inl ⟨(wanted_n rfl), fun _ => run_idx te22 ts3 rfl hk11.len rfl hx219 hA223⟩) ?_
  refine et_first (i := 8) (v := (Value.int .i64 x218)) rfl (by kernel_rfl) (fun _ _ _ h => h) rfl rfl (.inl ⟨(wanted_n rfl), fun w9 ⟨f9, hl9, h9⟩ => run_load1 (ad := (eAdr A7 ((p1.To).toNat * 1))) ta3 rfl (wd_arr 3 h9 rfl hA223 (hc224 0 _ rfl))⟩) hS ?_
  refine et_pure (i := 9) (v := (Value.bool (decide ((w64 (x202 + p1.Len)) ≤ x218)))) rfl (by kernel_rfl) (fun _ _ _ h => h) rfl rfl (.inl ⟨(wanted_n rfl), fun _ => run_pev (v := (Value.bool (decide ((w64 (x202 + p1.Len)) ≤ x218)))) rfl⟩) ?_
  refine et_tail rfl ?_
  refine ey_done rfl ?_
  refine ewp_cond (decide ((w64 (x202 + p1.Len)) ≤ x218)) rfl (fun hb226 => ?_) (fun hb226 => ?_)
  · replace h := ifb_t hb226 h
    refine ewp_ret ?_
    replace hw := hw.drop_0
    obtain rfl := Option.some.inj h
    exact ⟨_, res0 rfl, f, cur10, cur31, cur43, A49, n50, c51, cur52, (HP.le_refl _), rfl, hk11, hk32, hk44, hk53, hw⟩
  · replace h := ifb_f hb226 h
    refine ewp_skip ?_
    refine ewp_seq ?_
    refine ewp_draw (SW G f (Blk b191 (.cells (List.toArray [(Value.int .i64 p1.From), (Value.int .i64 p1.To), (Value.int .i64 p1.Len)]) 34 (0, 0)) :: Blk b2 (.cells (List.toArray [(Value.pointer (some ⟨b4, 0, none⟩))]) 69 (0, 0)) :: Blk b4 (.cells (List.toArray [(Value.slice A7 n8 c9), (Value.slice A14 n15 c16), (Value.slice A19 n20 c21)]) 73 (0, 0)) :: Arr A7 c9 cur10 :: Arr A19 c21 cur22 :: Blk b25 (.cells (List.toArray [(Value.slice A28 n29 c30)]) 22 (0, 0)) :: Arr A28 c30 cur31 :: Blk b34 (.cells (List.toArray [(Value.bool p36)]) 4 (0, 0)) :: Blk b37 (.cells (List.toArray [(Value.slice A40 n41 c42)]) 88 (0, 0)) :: Arr A40 c42 cur43 :: Blk b46 (.cells (List.toArray [(Value.slice A49 n50 c51)]) 22 (0, 0)) :: Arr A49 c51 cur52 :: L)) [] 7 mixed ?_
    replace hw := hw.drew
    have hS := SW.of hw
    refine et_first (i := 0) (v := (Value.pointer (some ⟨b4, 0, none⟩))) rfl (by kernel_rfl) (fun _ _ _ h => h) rfl rfl (.inl ⟨(wanted_n rfl), fun w9 ⟨f9, hl9, h9⟩ => run_load1 (ad := ⟨b2, 0, none⟩) ta69 rfl (wd_cell 1 h9 rfl rfl)⟩) hS ?_
    refine et_pure (i := 1) (v := (Value.pointer (some ⟨b4, 0, none⟩))) rfl (by kernel_rfl) (fun _ _ _ h => h) rfl rfl (.inl ⟨(wanted_n rfl), fun _ => run_pev (v := (Value.pointer (some ⟨b4, 0, none⟩))) rfl⟩) ?_
    refine et_pure (i := 2) (v := (Value.pointer (some ⟨b4, 0, none⟩))) rfl (by kernel_rfl) (fun _ _ _ h => h) rfl rfl (.inl ⟨(wanted_n rfl), fun _ => run_fieldAddr tf73_0 (o := 0) rfl⟩) ?_
    refine et_first (i := 3) (v := (Value.slice A7 n8 c9)) rfl (by kernel_rfl) (fun _ _ _ h => h) rfl rfl (.inl ⟨(wanted_n rfl), fun w9 ⟨f9, hl9, h9⟩ => run_load1 (ad := ⟨b4, 0, none⟩) ta22 rfl (wd_cell 2 h9 rfl rfl)⟩) hS ?_
    refine et_pure (i := 4) (v := (Value.pointer (some ⟨b191, 1, none⟩))) rfl (by kernel_rfl) (fun _ _ _ h => h) rfl rfl (.inl ⟨(wanted_n rfl), fun _ => run_fieldAddr tf34_1 (o := 0) rfl⟩) ?_
    refine et_first (i := 5) (v := (Value.int .i64 p1.To)) rfl (by kernel_rfl) (fun _ _ _ h => h) rfl rfl (.inl ⟨(wanted_n rfl), fun w9 ⟨f9, hl9, h9⟩ => run_load1 (ad := ⟨b191, 1, none⟩) ta3 rfl (wd_cell 0 h9 rfl rfl)⟩) hS ?_
    refine et_pure (i := 6) (v := (Value.int .i64 (w64 (x202 + p1.Len)))) rfl (by kernel_rfl) (fun _ _ _ h => h) rfl rfl (.inl ⟨(wanted_n rfl), fun _ => run_pev (v := (Value.int .i64 (w64 (x202 + p1.Len)))) rfl⟩) ?_
    refine et_tail rfl ?_
    refine ey_one (i := 7) (by kernel_rfl) ?_
    obtain ⟨b236, of237, es238, hA239, hc240, he241⟩ := arr_el hk11 hx219
    obtain rfl : es238 = _ := he241
    refine eo_val (v := (Value.pointer (some (eAdr A7 ((p1.To).toNat * 1))))) rfl (wanted_n rfl) rfl rfl (run_idx te22 ts3 rfl hk11.len rfl hx219 hA239) ?_
    refine ey_one (i := 8) (by kernel_rfl) ?_
    replace hw := hw.front3
    refine eo_exu rfl (wanted_n rfl) rfl (run_arrSet (E := fInt .i64) (y := w64 (x202 + p1.Len)) hw hk11 hx219 rfl rfl ts3 rfl rfl) ?_
    rintro w244 ⟨cur242, hk243, hw⟩
    refine ey_done rfl ?_
    refine ewp_seq ?_
    refine ewp_region ?_
    refine el_val (v := (Value.slice A28 n29 c30)) (wanted_n rfl) rfl rfl (run_load1 (ad := ⟨b25, 0, none⟩) ta22 rfl (wd_cell 5 hw rfl rfl)) ?_
    refine el_val (v := (Value.pointer (some ⟨b191, 1, none⟩))) (wanted_n rfl) rfl rfl (run_fieldAddr tf34_1 (o := 0) rfl) ?_
    refine el_val (v := (Value.int .i64 p1.To)) (wanted_n rfl) rfl rfl (run_load1 (ad := ⟨b191, 1, none⟩) ta3 rfl (wd_cell 1 hw rfl rfl)) ?_
    obtain ⟨x245, hx246, h⟩ := bind_some h
    obtain ⟨b247, of248, es249, hA250, hc251, he252⟩ := arr_el hk32 hx246
    obtain rfl : es249 = _ := he252
    refine el_val (v := (Value.pointer (some (eAdr A28 ((p1.To).toNat * 1))))) (wanted_n rfl) rfl rfl (run_idx te22 ts3 rfl hk32.len rfl hx246 hA250) ?_
    refine el_val (v := (Value.int .i64 x245)) (wanted_n rfl) rfl rfl (run_load1 (ad := (eAdr A28 ((p1.To).toNat * 1))) ta3 rfl (wd_arr 6 hw rfl hA250 (hc251 0 _ rfl))) ?_
    refine el_val (v := (Value.int .i64 (w64 (x245 + 1)))) (wanted_n rfl) rfl rfl (run_pev (v := (Value.int .i64 (w64 (x245 + 1)))) rfl) ?_
    obtain ⟨b253, of254, es255, hA256, hc257, he258⟩ := arr_el hk32 hx246
    obtain rfl : es255 = _ := he258
    refine el_val (v := (Value.pointer (some (eAdr A28 ((p1.To).toNat * 1))))) (wanted_n rfl) rfl rfl (run_idx te22 ts3 rfl hk32.len rfl hx246 hA256) ?_
    replace hw := hw.front6
    refine el_exu (wanted_n rfl) rfl (run_arrSet (E := fInt .i64) (y := w64 (x245 + 1)) hw hk32 hx246 rfl rfl ts3 rfl rfl) ?_
    rintro w261 ⟨cur259, hk260, hw⟩
    refine el_nil ?_
    refine ewp_seq ?_
    obtain ⟨s307, hc311, h⟩ := bind_some h
    refine ewp_N (fun ρ' w' => ∃ (f308 : HP), HP.le f f308 ∧ Live ρ' [(4, (Value.pointer (some ⟨b37, 0, none⟩))), (5, (Value.pointer (some ⟨b46, 0, none⟩))), (6, (Value.pointer (some ⟨b191, 0, none⟩)))] ∧ Wd G w' f308 (Arr A28 c30 cur259 :: Arr A7 c9 cur242 :: Arr A19 c21 cur22 :: Arr A40 c42 cur43 :: Arr A49 c51 cur52 :: Blk b191 (.cells (List.toArray [(Value.int .i64 p1.From), (Value.int .i64 p1.To), (Value.int .i64 p1.Len)]) 34 (0, 0)) :: Blk b2 (.cells (List.toArray [(Value.pointer (some ⟨b4, 0, none⟩))]) 69 (0, 0)) :: Blk b4 (.cells (List.toArray [(Value.slice A7 n8 c9), (Value.slice A14 n15 c16), (Value.slice A19 n20 c21)]) 73 (0, 0)) :: Blk b25 (.cells (List.toArray [(Value.slice A28 n29 c30)]) 22 (0, 0)) :: Blk b34 (.cells (List.toArray [(Value.bool s307)]) 4 (0, 0)) :: Blk b37 (.cells (List.toArray [(Value.slice A40 n41 c42)]) 88 (0, 0)) :: Blk b46 (.cells (List.toArray [(Value.slice A49 n50 c51)]) 22 (0, 0)) :: L)) ?_ ?_
    · replace h := hc311
      refine ewp_draw (SW G f (Arr A28 c30 cur259 :: Arr A7 c9 cur242 :: Blk b191 (.cells (List.toArray [(Value.int .i64 p1.From), (Value.int .i64 p1.To), (Value.int .i64 p1.Len)]) 34 (0, 0)) :: Blk b2 (.cells (List.toArray [(Value.pointer (some ⟨b4, 0, none⟩))]) 69 (0, 0)) :: Blk b4 (.cells (List.toArray [(Value.slice A7 n8 c9), (Value.slice A14 n15 c16), (Value.slice A19 n20 c21)]) 73 (0, 0)) :: Arr A19 c21 cur22 :: Blk b25 (.cells (List.toArray [(Value.slice A28 n29 c30)]) 22 (0, 0)) :: Blk b34 (.cells (List.toArray [(Value.bool p36)]) 4 (0, 0)) :: Blk b37 (.cells (List.toArray [(Value.slice A40 n41 c42)]) 88 (0, 0)) :: Arr A40 c42 cur43 :: Blk b46 (.cells (List.toArray [(Value.slice A49 n50 c51)]) 22 (0, 0)) :: Arr A49 c51 cur52 :: L)) [] 36 mixed ?_
      replace hw := hw.drew
      have hS := SW.of hw
      refine et_first (i := 0) (v := (Value.bool p36)) rfl (by kernel_rfl) (fun _ _ _ h => h) rfl rfl (.inl ⟨(wanted_n rfl), fun w9 ⟨f9, hl9, h9⟩ => run_load1 (ad := ⟨b34, 0, none⟩) ta4 rfl (wd_cell 7 h9 rfl rfl)⟩) hS ?_
      refine et_pure (i := 1) (v := (Value.bool p36)) rfl (by kernel_rfl) (fun _ _ _ h => h) rfl rfl (.inl ⟨(wanted_n rfl), fun _ => run_pev (v := (Value.bool p36)) rfl⟩) ?_
      rcases Bool.eq_false_or_eq_true p36 with hb353 | hb353
      · replace h := ifb_t hb353 h
        refine et_first (i := 2) (v := (Value.pointer (some ⟨b4, 0, none⟩))) rfl (by kernel_rfl) (fun _ _ _ h => h) rfl rfl (.inl ⟨(wanted_y rfl rfl rfl hb353), fun w9 ⟨f9, hl9, h9⟩ => run_load1 (ad := ⟨b2, 0, none⟩) ta69 rfl (wd_cell 3 h9 rfl rfl)⟩) hS ?_
        refine et_pure (i := 3) (v := (Value.pointer (some ⟨b4, 0, none⟩))) rfl (by kernel_rfl) (fun _ _ _ h => h) rfl rfl (.inl ⟨(wanted_y rfl rfl rfl hb353), fun _ => run_pev (v := (Value.pointer (some ⟨b4, 0, none⟩))) rfl⟩) ?_
        refine et_pure (i := 4) (v := (Value.pointer (some ⟨b4, 1, none⟩))) rfl (by kernel_rfl) (fun _ _ _ h => h) rfl rfl (.inl ⟨(wanted_y rfl rfl rfl hb353), fun _ => run_fieldAddr tf73_1 (o := 0) rfl⟩) ?_
        refine et_first (i := 5) (v := (Value.slice A14 n15 c16)) rfl (by kernel_rfl) (fun _ _ _ h => h) rfl rfl (.inl ⟨(wanted_y rfl rfl rfl hb353), fun w9 ⟨f9, hl9, h9⟩ => run_load1 (ad := ⟨b4, 1, none⟩) ta22 rfl (wd_cell 4 h9 rfl rfl)⟩) hS ?_
        refine et_pure (i := 6) (v := (Value.pointer (some ⟨b191, 1, none⟩))) rfl (by kernel_rfl) (fun _ _ _ h => h) rfl rfl (.inl ⟨(wanted_y rfl rfl rfl hb353), fun _ => run_fieldAddr tf34_1 (o := 0) rfl⟩) ?_
        refine et_first (i := 7) (v := (Value.int .i64 p1.To)) rfl (by kernel_rfl) (fun _ _ _ h => h) rfl rfl (.inl ⟨(wanted_y rfl rfl rfl hb353), fun w9 ⟨f9, hl9, h9⟩ => run_load1 (ad := ⟨b191, 1, none⟩) ta3 rfl (wd_cell 2 h9 rfl rfl)⟩) hS ?_
        obtain ⟨x354, hx355, h⟩ := bind_some h
        obtain ⟨b356, of357, es358, hA359, hc360, he361⟩ := sl_el hs17 hx355
        obtain rfl : es358 = _ := he361
        refine et_pure (i := 8) (v := (Value.pointer (some (eAdr A14 ((p1.To).toNat * 1))))) rfl (by kernel_rfl) (fun _ _ _ h => h) rfl rfl (.inl ⟨(wanted_y rfl rfl rfl hb353), fun _ => run_idx te22 ts3 rfl hs17.len rfl hx355 hA359⟩) ?_
        refine et_first (i := 9) (v := (Value.int .i64 x354)) rfl (by kernel_rfl) (fun _ _ _ h => h) rfl rfl (.inl ⟨(wanted_y rfl rfl rfl hb353), fun w9 ⟨f9, hl9, h9⟩ => run_load1 (ad := (eAdr A14 ((p1.To).toNat * 1))) ta3 rfl (h9.fz (hcell_le hl9 (hc360 0 _ rfl)))⟩) hS ?_
        refine et_pure (i := 10) (v := (Value.bool (decide (x354 < 0)))) rfl (by kernel_rfl) (fun _ _ _ h => h) rfl rfl (.inl ⟨(wanted_y rfl rfl rfl hb353), fun _ => run_pev (v := (Value.bool (decide (x354 < 0)))) rfl⟩) ?_
        refine et_pure (i := 11) (v := (Value.bool (decide (x354 < 0)))) rfl (by kernel_rfl) (fun _ _ _ h => h) rfl rfl (.inl ⟨(wanted_y rfl rfl rfl hb353), fun _ => run_pev (v := (Value.bool (decide (x354 < 0)))) rfl⟩) ?_
        rcases Bool.eq_false_or_eq_true (decide (x354 < 0)) with hb362 | hb362
        · replace h := ifb_t hb362 h
          refine et_pure (i := 12) rfl (by kernel_rfl) (fun _ _ _ h => h) rfl rfl (.inr ⟨(wanted_f rfl rfl rfl hb362), rfl⟩) ?_
          refine et_pure (i := 13) rfl (by kernel_rfl) (fun _ _ _ h => h) rfl rfl (.inr ⟨(wanted_f rfl rfl rfl hb362), rfl⟩) ?_
          refine et_pure (i := 14) rfl (by kernel_rfl) (fun _ _ _ h => h) rfl rfl (.inr ⟨(wanted_f rfl rfl rfl hb362), rfl⟩) ?_
          refine et_pure (i := 15) rfl (by kernel_rfl) (fun _ _ _ h => h) rfl rfl (.inr ⟨(wanted_f rfl rfl rfl hb362), rfl⟩) ?_
          refine et_pure (i := 16) rfl (by kernel_rfl) (fun _ _ _ h => h) rfl rfl (.inr ⟨(wanted_f rfl rfl rfl hb362), rfl⟩) ?_
          refine et_pure (i := 17) rfl (by kernel_rfl) (fun _ _ _ h => h) rfl rfl (.inr ⟨(wanted_f rfl rfl rfl hb362), rfl⟩) ?_
          refine et_pure (i := 18) rfl (by kernel_rfl) (fun _ _ _ h => h) rfl rfl (.inr ⟨(wanted_f rfl rfl rfl hb362), rfl⟩) ?_
          refine et_pure (i := 19) rfl (by kernel_rfl) (fun _ _ _ h => h) rfl rfl (.inr ⟨(wanted_f rfl rfl rfl hb362), rfl⟩) ?_
          refine et_pure (i := 20) rfl (by kernel_rfl) (fun _ _ _ h => h) rfl rfl (.inr ⟨(wanted_f rfl rfl rfl hb362), rfl⟩) ?_
          refine et_pure (i := 21) rfl (by kernel_rfl) (fun _ _ _ h => h) rfl rfl (.inr ⟨(wanted_f rfl rfl rfl hb362), rfl⟩) ?_
          refine et_pure (i := 22) (v := (Value.bool true)) rfl (by kernel_rfl) (fun _ _ _ h => h) rfl rfl (.inl ⟨(wanted_y rfl rfl rfl hb353), fun _ => run_pick_t rfl hb362 rfl⟩) ?_
          refine et_pure (i := 23) (v := (Value.bool true)) rfl (by kernel_rfl) (fun _ _ _ h => h) rfl rfl (.inl ⟨(wanted_n rfl), fun _ => run_pick_t rfl hb353 rfl⟩) ?_
          refine et_pure (i := 24) (v := (Value.bool true)) rfl (by kernel_rfl) (fun _ _ _ h => h) rfl rfl (.inl ⟨(wanted_n rfl), fun _ => run_pev (v := (Value.bool true)) rfl⟩) ?_
          refine et_pure (i := 25) (v := (Value.int .i64 (w64 (x202 + p1.Len)))) rfl (by kernel_rfl) (fun _ _ _ h => h) rfl rfl (.inl ⟨(wanted_y rfl rfl rfl rfl), fun _ => run_pev (v := (Value.int .i64 (w64 (x202 + p1.Len)))) rfl⟩) ?_
          refine et_pure (i := 26) (v := (Value.bool (decide ((w64 (x202 + p1.Len)) ≤ 1099511627776)))) rfl (by kernel_rfl) (fun _ _ _ h => h) rfl rfl (.inl ⟨(wanted_y rfl rfl rfl rfl), fun _ => run_pev (v := (Value.bool (decide ((w64 (x202 + p1.Len)) ≤ 1099511627776)))) rfl⟩) ?_
          refine et_pure (i := 27) (v := (Value.bool (decide ((w64 (x202 + p1.Len)) ≤ 1099511627776)))) rfl (by kernel_rfl) (fun _ _ _ h => h) rfl rfl (.inl ⟨(wanted_n rfl), fun _ => run_pick_t rfl rfl rfl⟩) ?_
          refine et_pure (i := 28) (v := (Value.bool (decide ((w64 (x202 + p1.Len)) ≤ 1099511627776)))) rfl (by kernel_rfl) (fun _ _ _ h => h) rfl rfl (.inl ⟨(wanted_n rfl), fun _ => run_pev (v := (Value.bool (decide ((w64 (x202 + p1.Len)) ≤ 1099511627776)))) rfl⟩) ?_
          rcases Bool.eq_false_or_eq_true (decide ((w64 (x202 + p1.Len)) ≤ 1099511627776)) with hb363 | hb363
          · replace h := ifb_t hb363 h
            refine et_first (i := 29) (v := (Value.slice A28 n29 c30)) rfl (by kernel_rfl) (fun _ _ _ h => h) rfl rfl (.inl ⟨(wanted_y rfl rfl rfl hb363), fun w9 ⟨f9, hl9, h9⟩ => run_load1 (ad := ⟨b25, 0, none⟩) ta22 rfl (wd_cell 6 h9 rfl rfl)⟩) hS ?_
            refine et_pure (i := 30) (v := (Value.pointer (some ⟨b191, 1, none⟩))) rfl (by kernel_rfl) (fun _ _ _ h => h) rfl rfl (.inl ⟨(wanted_y rfl rfl rfl hb363), fun _ => run_fieldAddr tf34_1 (o := 0) rfl⟩) ?_
            refine et_first (i := 31) (v := (Value.int .i64 p1.To)) rfl (by kernel_rfl) (fun _ _ _ h => h) rfl rfl (.inl ⟨(wanted_y rfl rfl rfl hb363), fun w9 ⟨f9, hl9, h9⟩ => run_load1 (ad := ⟨b191, 1, none⟩) ta3 rfl (wd_cell 2 h9 rfl rfl)⟩) hS ?_
            obtain ⟨x364, hx365, h⟩ := bind_some h
            obtain ⟨b366, of367, es368, hA369, hc370, he371⟩ := arr_el hk260 hx365
            obtain rfl : es368 = _ := he371
            refine et_pure (i := 32) (v := (Value.pointer (some (eAdr A28 ((p1.To).toNat * 1))))) rfl (by kernel_rfl) (fun _ _ _ h => h) rfl rfl (.inl ⟨(wanted_y rfl rfl rfl hb363), fun _ => run_idx te22 ts3 rfl hk260.len rfl hx365 hA369⟩) ?_
            refine et_first (i := 33) (v := (Value.int .i64 x364)) rfl (by kernel_rfl) (fun _ _ _ h => h) rfl rfl (.inl ⟨(wanted_y rfl rfl rfl hb363), fun w9 ⟨f9, hl9, h9⟩ => run_load1 (ad := (eAdr A28 ((p1.To).toNat * 1))) ta3 rfl (wd_arr 0 h9 rfl hA369 (hc370 0 _ rfl))⟩) hS ?_
            refine et_pure (i := 34) (v := (Value.bool (decide (x364 ≤ 65536)))) rfl (by kernel_rfl) (fun _ _ _ h => h) rfl rfl (.inl ⟨(wanted_y rfl rfl rfl hb363), fun _ => run_pev (v := (Value.bool (decide (x364 ≤ 65536)))) rfl⟩) ?_
            refine et_pure (i := 35) (v := (Value.bool (decide (x364 ≤ 65536)))) rfl (by kernel_rfl) (fun _ _ _ h => h) rfl rfl (.inl ⟨(wanted_n rfl), fun _ => run_pick_t rfl hb363 rfl⟩) ?_
            refine et_tail rfl ?_
            refine ey_one (i := 36) (by kernel_rfl) ?_
            replace hw := hw.front7
            refine eo_exu rfl (wanted_n rfl) rfl (run_blkSetE (new := List.toArray [(Value.bool (decide (x364 ≤ 65536)))]) hw rfl rfl ts4 rfl rfl rfl) ?_
            rintro w372 hw
            refine ey_done rfl ?_
            replace hw := hw.front7
            replace hw := hw.front6
            replace hw := hw.front6
            replace hw := hw.front6
            replace hw := hw.front11
            replace hw := hw.front10
            replace hw := hw.front9
            replace hw := hw.front9
            replace hw := hw.front9
            obtain rfl := Option.some.inj h
            exact ⟨f, (HP.le_refl _), ⟨rfl, rfl, rfl, trivial⟩, hw⟩
          · replace h := ifb_f hb363 h
            refine et_pure (i := 29) rfl (by kernel_rfl) (fun _ _ _ h => h) rfl rfl (.inr ⟨(wanted_f rfl rfl rfl hb363), rfl⟩) ?_
            refine et_pure (i := 30) rfl (by kernel_rfl) (fun _ _ _ h => h) rfl rfl (.inr ⟨(wanted_f rfl rfl rfl hb363), rfl⟩) ?_
            refine et_pure (i := 31) rfl (by kernel_rfl) (fun _ _ _ h => h) rfl rfl (.inr ⟨(wanted_f rfl rfl rfl hb363), rfl⟩) ?_
            refine et_pure (i := 32) rfl (by kernel_rfl) (fun _ _ _ h => h) rfl rfl (.inr ⟨(wanted_f rfl rfl rfl hb363), rfl⟩) ?_
            refine et_pure (i := 33) rfl (by kernel_rfl) (fun _ _ _ h => h) rfl rfl (.inr ⟨(wanted_f rfl rfl rfl hb363), rfl⟩) ?_
            refine et_pure (i := 34) rfl (by kernel_rfl) (fun _ _ _ h => h) rfl rfl (.inr ⟨(wanted_f rfl rfl rfl hb363), rfl⟩) ?_
            refine et_pure (i := 35) (v := (Value.bool false)) rfl (by kernel_rfl) (fun _ _ _ h => h) rfl rfl (.inl ⟨(wanted_n rfl), fun _ => run_pick_f rfl hb363 rfl⟩) ?_
            refine et_tail rfl ?_
            refine ey_one (i := 36) (by kernel_rfl) ?_
            replace hw := hw.front7
            refine eo_exu rfl (wanted_n rfl) rfl (run_blkSetE (new := List.toArray [(Value.bool false)]) hw rfl rfl ts4 rfl rfl rfl) ?_
            rintro w373 hw
            refine ey_done rfl ?_
            replace hw := hw.front7
            replace hw := hw.front6
            replace hw := hw.front6
            replace hw := hw.front6
            replace hw := hw.front11
            replace hw := hw.front10
            replace hw := hw.front9
            replace hw := hw.front9
            replace hw := hw.front9
            obtain rfl := Option.some.inj h
            exact ⟨f, (HP.le_refl _), ⟨rfl, rfl, rfl, trivial⟩, hw⟩
        · replace h := ifb_f hb362 h
          refine et_pure (i := 12) (v := (Value.int .i64 (w64 (x202 + p1.Len)))) rfl (by kernel_rfl) (fun _ _ _ h => h) rfl rfl (.inl ⟨(wanted_y rfl rfl rfl hb362), fun _ => run_pev (v := (Value.int .i64 (w64 (x202 + p1.Len)))) rfl⟩) ?_
          refine et_first (i := 13) (v := (Value.pointer (some ⟨b4, 0, none⟩))) rfl (by kernel_rfl) (fun _ _ _ h => h) rfl rfl (.inl ⟨(wanted_y rfl rfl rfl hb362), fun w9 ⟨f9, hl9, h9⟩ => run_load1 (ad := ⟨b2, 0, none⟩) ta69 rfl (wd_cell 3 h9 rfl rfl)⟩) hS ?_
          refine et_pure (i := 14) (v := (Value.pointer (some ⟨b4, 0, none⟩))) rfl (by kernel_rfl) (fun _ _ _ h => h) rfl rfl (.inl ⟨(wanted_y rfl rfl rfl hb362), fun _ => run_pev (v := (Value.pointer (some ⟨b4, 0, none⟩))) rfl⟩) ?_
          refine et_pure (i := 15) (v := (Value.pointer (some ⟨b4, 1, none⟩))) rfl (by kernel_rfl) (fun _ _ _ h => h) rfl rfl (.inl ⟨(wanted_y rfl rfl rfl hb362), fun _ => run_fieldAddr tf73_1 (o := 0) rfl⟩) ?_
          refine et_first (i := 16) (v := (Value.slice A14 n15 c16)) rfl (by kernel_rfl) (fun _ _ _ h => h) rfl rfl (.inl ⟨(wanted_y rfl rfl rfl hb362), fun w9 ⟨f9, hl9, h9⟩ => run_load1 (ad := ⟨b4, 1, none⟩) ta22 rfl (wd_cell 4 h9 rfl rfl)⟩) hS ?_
          refine et_pure (i := 17) (v := (Value.pointer (some ⟨b191, 1, none⟩))) rfl (by kernel_rfl) (fun _ _ _ h => h) rfl rfl (.inl ⟨(wanted_y rfl rfl rfl hb362), fun _ => run_fieldAddr tf34_1 (o := 0) rfl⟩) ?_
          refine et_first (i := 18) (v := (Value.int .i64 p1.To)) rfl (by kernel_rfl) (fun _ _ _ h => h) rfl rfl (.inl ⟨(wanted_y rfl rfl rfl hb362), fun w9 ⟨f9, hl9, h9⟩ => run_load1 (ad := ⟨b191, 1, none⟩) ta3 rfl (wd_cell 2 h9 rfl rfl)⟩) hS ?_
          obtain ⟨b374, of375, es376, hA377, hc378, he379⟩ := sl_el hs17 hx355
          obtain rfl : es376 = _ := he379
          refine et_pure (i := 19) (v := (Value.pointer (some (eAdr A14 ((p1.To).toNat * 1))))) rfl (by kernel_rfl) (fun _ _ _ h => h) rfl rfl (.inl ⟨(wanted_y rfl rfl rfl hb362), fun _ => run_idx te22 ts3 rfl hs17.len rfl hx355 hA377⟩) ?_
          refine et_first (i := 20) (v := (Value.int .i64 x354)) rfl (by kernel_rfl) (fun _ _ _ h => h) rfl rfl (.inl ⟨(wanted_y rfl rfl rfl hb362), fun w9 ⟨f9, hl9, h9⟩ => run_load1 (ad := (eAdr A14 ((p1.To).toNat * 1))) ta3 rfl (h9.fz (hcell_le hl9 (hc378 0 _ rfl)))⟩) hS ?_
          refine et_pure (i := 21) (v := (Value.bool (decide ((w64 (x202 + p1.Len)) ≤ x354)))) rfl (by kernel_rfl) (fun _ _ _ h => h) rfl rfl (.inl ⟨(wanted_y rfl rfl rfl hb362), fun _ => run_pev (v := (Value.bool (decide ((w64 (x202 + p1.Len)) ≤ x354)))) rfl⟩) ?_
          refine et_pure (i := 22) (v := (Value.bool (decide ((w64 (x202 + p1.Len)) ≤ x354)))) rfl (by kernel_rfl) (fun _ _ _ h => h) rfl rfl (.inl ⟨(wanted_y rfl rfl rfl hb353), fun _ => run_pick_f rfl hb362 rfl⟩) ?_
          refine et_pure (i := 23) (v := (Value.bool (decide ((w64 (x202 + p1.Len)) ≤ x354)))) rfl (by kernel_rfl) (fun _ _ _ h => h) rfl rfl (.inl ⟨(wanted_n rfl), fun _ => run_pick_t rfl hb353 rfl⟩) ?_
          refine et_pure (i := 24) (v := (Value.bool (decide ((w64 (x202 + p1.Len)) ≤ x354)))) rfl (by kernel_rfl) (fun _ _ _ h => h) rfl rfl (.inl ⟨(wanted_n rfl), fun _ => run_pev (v := (Value.bool (decide ((w64 (x202 + p1.Len)) ≤ x354)))) rfl⟩) ?_
          rcases Bool.eq_false_or_eq_true (decide ((w64 (x202 + p1.Len)) ≤ x354)) with hb380 | hb380
          · replace h := ifb_t hb380 h
            refine et_pure (i := 25) (v := (Value.int .i64 (w64 (x202 + p1.Len)))) rfl (by kernel_rfl) (fun _ _ _ h => h) rfl rfl (.inl ⟨(wanted_y rfl rfl rfl hb380), fun _ => run_pev (v := (Value.int .i64 (w64 (x202 + p1.Len)))) rfl⟩) ?_
            refine et_pure (i := 26) (v := (Value.bool (decide ((w64 (x202 + p1.Len)) ≤ 1099511627776)))) rfl (by kernel_rfl) (fun _ _ _ h => h) rfl rfl (.inl ⟨(wanted_y rfl rfl rfl hb380), fun _ => run_pev (v := (Value.bool (decide ((w64 (x202 + p1.Len)) ≤ 1099511627776)))) rfl⟩) ?_
            refine et_pure (i := 27) (v := (Value.bool (decide ((w64 (x202 + p1.Len)) ≤ 1099511627776)))) rfl (by kernel_rfl) (fun _ _ _ h => h) rfl rfl (.inl ⟨(wanted_n rfl), fun _ => run_pick_t rfl hb380 rfl⟩) ?_
            refine et_pure (i := 28) (v := (Value.bool (decide ((w64 (x202 + p1.Len)) ≤ 1099511627776)))) rfl (by kernel_rfl) (fun _ _ _ h => h) rfl rfl (.inl ⟨(wanted_n rfl), fun _ => run_pev (v := (Value.bool (decide ((w64 (x202 + p1.Len)) ≤ 1099511627776)))) rfl⟩) ?_
            rcases Bool.eq_false_or_eq_true (decide ((w64 (x202 + p1.Len)) ≤ 1099511627776)) with hb381 | hb381
            · replace h := ifb_t hb381 h
              refine et_first (i := 29) (v := (Value.slice A28 n29 c30)) rfl (by kernel_rfl) (fun _ _ _ h => h) rfl rfl (.inl ⟨(wanted_y rfl rfl rfl hb381), fun w9 ⟨f9, hl9, h9⟩ => run_load1 (ad := ⟨b25, 0, none⟩) ta22 rfl (wd_cell 6 h9 rfl rfl)⟩) hS ?_
              refine et_pure (i := 30) (v := (Value.pointer (some ⟨b191, 1, none⟩))) rfl (by kernel_rfl) (fun _ _ _ h => h) rfl rfl (.inl ⟨(wanted_y rfl rfl rfl hb381), fun _ => run_fieldAddr tf34_1 (o := 0) rfl⟩) ?_
              refine et_first (i := 31) (v := (Value.int .i64 p1.To)) rfl (by kernel_rfl) (fun _ _ _ h => h) rfl rfl (.inl ⟨(wanted_y rfl rfl rfl hb381), fun w9 ⟨f9, hl9, h9⟩ => run_load1 (ad := ⟨b191, 1, none⟩) ta3 rfl (wd_cell 2 h9 rfl rfl)⟩) hS ?_
              obtain ⟨x382, hx383, h⟩ := bind_some h
              obtain ⟨b384, of385, es386, hA387, hc388, he389⟩ := arr_el hk260 hx383
              obtain rfl : es386 = _ := he389
              refine et_pure (i := 32) (v := (Value.pointer (some (eAdr A28 ((p1.To).toNat * 1))))) rfl (by kernel_rfl) (fun _ _ _ h => h) rfl rfl (.inl ⟨(wanted_y rfl rfl rfl hb381), fun _ => run_idx te22 ts3 rfl hk260.len rfl hx383 hA387⟩) ?_
              refine et_first (i := 33) (v := (Value.int .i64 x382)) rfl (by kernel_rfl) (fun _ _ _ h => h) rfl rfl (.inl ⟨(wanted_y rfl rfl rfl hb381), fun w9 ⟨f9, hl9, h9⟩ => run_load1 (ad := (eAdr A28 ((p1.To).toNat * 1))) ta3 rfl (wd_arr 0 h9 rfl hA387 (hc388 0 _ rfl))⟩) hS ?_
              refine et_pure (i := 34) (v := (Value.bool (decide (x382 ≤ 65536)))) rfl (by kernel_rfl) (fun _ _ _ h => h) rfl rfl (.inl ⟨(wanted_y rfl rfl rfl hb381), fun _ => run_pev (v := (Value.bool (decide (x382 ≤ 65536)))) rfl⟩) ?_
              refine et_pure (i := 35) (v := (Value.bool (decide (x382 ≤ 65536)))) rfl (by kernel_rfl) (fun _ _ _ h => h) rfl rfl (.inl ⟨(wanted_n rfl), fun _ => run_pick_t rfl hb381 rfl⟩) ?_
              refine et_tail rfl ?_
              refine ey_one (i := 36) (by kernel_rfl) ?_
              replace hw := hw.front7
              refine eo_exu rfl (wanted_n rfl) rfl (run_blkSetE (new := List.toArray [(Value.bool (decide (x382 ≤ 65536)))]) hw rfl rfl ts4 rfl rfl rfl) ?_
              rintro w390 hw
              refine ey_done rfl ?_
              replace hw := hw.front7
              replace hw := hw.front6
              replace hw := hw.front6
              replace hw := hw.front6
              replace hw := hw.front11
              replace hw := hw.front10
              replace hw := hw.front9
              replace hw := hw.front9
              replace hw := hw.front9
              obtain rfl := Option.some.inj h
              exact ⟨f, (HP.le_refl _), ⟨rfl, rfl, rfl, trivial⟩, hw⟩
            · replace h := ifb_f hb381 h
              refine et_pure (i := 29) rfl (by kernel_rfl) (fun _ _ _ h => h) rfl rfl (.inr ⟨(wanted_f rfl rfl rfl hb381), rfl⟩) ?_
              refine et_pure (i := 30) rfl (by kernel_rfl) (fun _ _ _ h => h) rfl rfl (.inr ⟨(wanted_f rfl rfl rfl hb381), rfl⟩) ?_
              refine et_pure (i := 31) rfl (by kernel_rfl) (fun _ _ _ h => h) rfl rfl (.inr ⟨(wanted_f rfl rfl rfl hb381), rfl⟩) ?_
              refine et_pure (i := 32) rfl (by kernel_rfl) (fun _ _ _ h => h) rfl rfl (.inr ⟨(wanted_f rfl rfl rfl hb381), rfl⟩) ?_
              refine et_pure (i := 33) rfl (by kernel_rfl) (fun _ _ _ h => h) rfl rfl (.inr ⟨(wanted_f rfl rfl rfl hb381), rfl⟩) ?_
              refine et_pure (i := 34) rfl (by kernel_rfl) (fun _ _ _ h => h) rfl rfl (.inr ⟨(wanted_f rfl rfl rfl hb381), rfl⟩) ?_
              refine et_pure (i := 35) (v := (Value.bool false)) rfl (by kernel_rfl) (fun _ _ _ h => h) rfl rfl (.inl ⟨(wanted_n rfl), fun _ => run_pick_f rfl hb381 rfl⟩) ?_
              refine et_tail rfl ?_
              refine ey_one (i := 36) (by kernel_rfl) ?_
              replace hw := hw.front7
              refine eo_exu rfl (wanted_n rfl) rfl (run_blkSetE (new := List.toArray [(Value.bool false)]) hw rfl rfl ts4 rfl rfl rfl) ?_
              rintro w391 hw
              refine ey_done rfl ?_
              replace hw := hw.front7
              replace hw := hw.front6
              replace hw := hw.front6
              replace hw := hw.front6
              replace hw := hw.front11
              replace hw := hw.front10
              replace hw := hw.front9
              replace hw := hw.front9
              replace hw := hw.front9
              obtain rfl := Option.some.inj h
              exact ⟨f, (HP.le_refl _), ⟨rfl, rfl, rfl, trivial⟩, hw⟩
          · replace h := ifb_f hb380 h
            refine et_pure (i := 25) rfl (by kernel_rfl) (fun _ _ _ h => h) rfl rfl (.inr ⟨(wanted_f rfl rfl rfl hb380), rfl⟩) ?_
            refine et_pure (i := 26) rfl (by kernel_rfl) (fun _ _ _ h => h) rfl rfl (.inr ⟨(wanted_f rfl rfl rfl hb380), rfl⟩) ?_
            refine et_pure (i := 27) (v := (Value.bool false)) rfl (by kernel_rfl) (fun _ _ _ h => h) rfl rfl (.inl ⟨(wanted_n rfl), fun _ => run_pick_f rfl hb380 rfl⟩) ?_
            refine et_pure (i := 28) (v := (Value.bool false)) rfl (by kernel_rfl) (fun _ _ _ h => h) rfl rfl (.inl ⟨(wanted_n rfl), fun _ => run_pev (v := (Value.bool false)) rfl⟩) ?_
            refine et_pure (i := 29) rfl (by kernel_rfl) (fun _ _ _ h => h) rfl rfl (.inr ⟨(wanted_f rfl rfl rfl rfl), rfl⟩) ?_
            refine et_pure (i := 30) rfl (by kernel_rfl) (fun _ _ _ h => h) rfl rfl (.inr ⟨(wanted_f rfl rfl rfl rfl), rfl⟩) ?_
            refine et_pure (i := 31) rfl (by kernel_rfl) (fun _ _ _ h => h) rfl rfl (.inr ⟨(wanted_f rfl rfl rfl rfl), rfl⟩) ?_
            refine et_pure (i := 32) rfl (by kernel_rfl) (fun _ _ _ h => h) rfl rfl (.inr ⟨(wanted_f rfl rfl rfl rfl), rfl⟩) ?_
            refine et_pure (i := 33) rfl (by kernel_rfl) (fun _ _ _ h => h) rfl rfl (.inr ⟨(wanted_f rfl rfl rfl rfl), rfl⟩) ?_
            refine et_pure (i := 34) rfl (by kernel_rfl) (fun _ _ _ h => h) rfl rfl (.inr ⟨(wanted_f rfl rfl rfl rfl), rfl⟩) ?_
            refine et_pure (i := 35) (v := (Value.bool false)) rfl (by kernel_rfl) (fun _ _ _ h => h) rfl rfl (.inl ⟨(wanted_n rfl), fun _ => run_pick_f rfl rfl rfl⟩) ?_
            refine et_tail rfl ?_
            refine ey_one (i := 36) (by kernel_rfl) ?_
            replace hw := hw.front7
            refine eo_exu rfl (wanted_n rfl) rfl (run_blkSetE (new := List.toArray [(Value.bool false)]) hw rfl rfl ts4 rfl rfl rfl) ?_
            rintro w392 hw
            refine ey_done rfl ?_
            replace hw := hw.front7
            replace hw := hw.front6
            replace hw := hw.front6
            replace hw := hw.front6
            replace hw := hw.front11
            replace hw := hw.front10
            replace hw := hw.front9
            replace hw := hw.front9
            replace hw := hw.front9
            obtain rfl := Option.some.inj h
            exact ⟨f, (HP.le_refl _), ⟨rfl, rfl, rfl, trivial⟩, hw⟩
      · replace h := ifb_f hb353 h
        refine et_pure (i := 2) rfl (by kernel_rfl) (fun _ _ _ h => h) rfl rfl (.inr ⟨(wanted_f rfl rfl rfl hb353), rfl⟩) ?_
        refine et_pure (i := 3) rfl (by kernel_rfl) (fun _ _ _ h => h) rfl rfl (.inr ⟨(wanted_f rfl rfl rfl hb353), rfl⟩) ?_
        refine et_pure (i := 4) rfl (by kernel_rfl) (fun _ _ _ h => h) rfl rfl (.inr ⟨(wanted_f rfl rfl rfl hb353), rfl⟩) ?_
        refine et_pure (i := 5) rfl (by kernel_rfl) (fun _ _ _ h => h) rfl rfl (.inr ⟨(wanted_f rfl rfl rfl hb353), rfl⟩) ?_
        refine et_pure (i := 6) rfl (by kernel_rfl) (fun _ _ _ h => h) rfl rfl (.inr ⟨(wanted_f rfl rfl rfl hb353), rfl⟩) ?_
        refine et_pure (i := 7) rfl (by kernel_rfl) (fun _ _ _ h => h) rfl rfl (.inr ⟨(wanted_f rfl rfl rfl hb353), rfl⟩) ?_
        refine et_pure (i := 8) rfl (by kernel_rfl) (fun _ _ _ h => h) rfl rfl (.inr ⟨(wanted_f rfl rfl rfl hb353), rfl⟩) ?_
        refine et_pure (i := 9) rfl (by kernel_rfl) (fun _ _ _ h => h) rfl rfl (.inr ⟨(wanted_f rfl rfl rfl hb353), rfl⟩) ?_
        refine et_pure (i := 10) rfl (by kernel_rfl) (fun _ _ _ h => h) rfl rfl (.inr ⟨(wanted_f rfl rfl rfl hb353), rfl⟩) ?_
        refine et_pure (i := 11) rfl (by kernel_rfl) (fun _ _ _ h => h) rfl rfl (.inr ⟨(wanted_f rfl rfl rfl hb353), rfl⟩) ?_
        refine et_pure (i := 12) rfl (by kernel_rfl) (fun _ _ _ h => h) rfl rfl (.inr ⟨(wanted_u rfl rfl rfl), rfl⟩) ?_
        refine et_pure (i := 13) rfl (by kernel_rfl) (fun _ _ _ h => h) rfl rfl (.inr ⟨(wanted_u rfl rfl rfl), rfl⟩) ?_
        refine et_pure (i := 14) rfl (by kernel_rfl) (fun _ _ _ h => h) rfl rfl (.inr ⟨(wanted_u rfl rfl rfl), rfl⟩) ?_
        refine et_pure (i := 15) rfl (by kernel_rfl) (fun _ _ _ h => h) rfl rfl (.inr ⟨(wanted_u rfl rfl rfl), rfl⟩) ?_
        refine et_pure (i := 16) rfl (by kernel_rfl) (fun _ _ _ h => h) rfl rfl (.inr ⟨(wanted_u rfl rfl rfl), rfl⟩) ?_
        refine et_pure (i := 17) rfl (by kernel_rfl) (fun _ _ _ h => h) rfl rfl (.inr ⟨(wanted_u rfl rfl rfl), rfl⟩) ?_
        refine et_pure (i := 18) rfl (by kernel_rfl) (fun _ _ _ h => h) rfl rfl (.inr ⟨(wanted_u rfl rfl rfl), rfl⟩) ?_
        refine et_pure (i := 19) rfl (by kernel_rfl) (fun _ _ _ h => h) rfl rfl (.inr ⟨(wanted_u rfl rfl rfl), rfl⟩) ?_
        refine et_pure (i := 20) rfl (by kernel_rfl) (fun _ _ _ h => h) rfl rfl (.inr ⟨(wanted_u rfl rfl rfl), rfl⟩) ?_
        refine et_pure (i := 21) rfl (by kernel_rfl) (fun _ _ _ h => h) rfl rfl (.inr ⟨(wanted_u rfl rfl rfl), rfl⟩) ?_
        refine et_pure (i := 22) rfl (by kernel_rfl) (fun _ _ _ h => h) rfl rfl (.inr ⟨(wanted_f rfl rfl rfl hb353), rfl⟩) ?_
        refine et_pure (i := 23) (v := (Value.bool false)) rfl (by kernel_rfl) (fun _ _ _ h => h) rfl rfl (.inl ⟨(wanted_n rfl), fun _ => run_pick_f rfl hb353 rfl⟩) ?_
        refine et_pure (i := 24) (v := (Value.bool false)) rfl (by kernel_rfl) (fun _ _ _ h => h) rfl rfl (.inl ⟨(wanted_n rfl), fun _ => run_pev (v := (Value.bool false)) rfl⟩) ?_
        refine et_pure (i := 25) rfl (by kernel_rfl) (fun _ _ _ h => h) rfl rfl (.inr ⟨(wanted_f rfl rfl rfl rfl), rfl⟩) ?_
        refine et_pure (i := 26) rfl (by kernel_rfl) (fun _ _ _ h => h) rfl rfl (.inr ⟨(wanted_f rfl rfl rfl rfl), rfl⟩) ?_
        refine et_pure (i := 27) (v := (Value.bool false)) rfl (by kernel_rfl) (fun _ _ _ h => h) rfl rfl (.inl ⟨(wanted_n rfl), fun _ => run_pick_f rfl rfl rfl⟩) ?_
        refine et_pure (i := 28) (v := (Value.bool false)) rfl (by kernel_rfl) (fun _ _ _ h => h) rfl rfl (.inl ⟨(wanted_n rfl), fun _ => run_pev (v := (Value.bool false)) rfl⟩) ?_
        refine et_pure (i := 29) rfl (by kernel_rfl) (fun _ _ _ h => h) rfl rfl (.inr ⟨(wanted_f rfl rfl rfl rfl), rfl⟩) ?_
        refine et_pure (i := 30) rfl (by kernel_rfl) (fun _ _ _ h => h) rfl rfl (.inr ⟨(wanted_f rfl rfl rfl rfl), rfl⟩) ?_
        refine et_pure (i := 31) rfl (by kernel_rfl) (fun _ _ _ h => h) rfl rfl (.inr ⟨(wanted_f rfl rfl rfl rfl), rfl⟩) ?_
        refine et_pure (i := 32) rfl (by kernel_rfl) (fun _ _ _ h => h) rfl rfl (.inr ⟨(wanted_f rfl rfl rfl rfl), rfl⟩) ?_
        refine et_pure (i := 33) rfl (by kernel_rfl) (fun _ _ _ h => h) rfl rfl (.inr ⟨(wanted_f rfl rfl rfl rfl), rfl⟩) ?_
        refine et_pure (i := 34) rfl (by kernel_rfl) (fun _ _ _ h => h) rfl rfl (.inr ⟨(wanted_f rfl rfl rfl rfl), rfl⟩) ?_
        refine et_pure (i := 35) (v := (Value.bool false)) rfl (by kernel_rfl) (fun _ _ _ h => h) rfl rfl (.inl ⟨(wanted_n rfl), fun _ => run_pick_f rfl rfl rfl⟩) ?_
        refine et_tail rfl ?_
        refine ey_one (i := 36) (by kernel_rfl) ?_
        replace hw := hw.front7
        refine eo_exu rfl (wanted_n rfl) rfl (run_blkSetE (new := List.toArray [(Value.bool false)]) hw rfl rfl ts4 rfl rfl rfl) ?_
        rintro w393 hw
        refine ey_done rfl ?_
        replace hw := hw.front7
        replace hw := hw.front6
        replace hw := hw.front6
        replace hw := hw.front6
        replace hw := hw.front11
        replace hw := hw.front10
        replace hw := hw.front9
        replace hw := hw.front9
        replace hw := hw.front9
        obtain rfl := Option.some.inj h
        exact ⟨f, (HP.le_refl _), ⟨rfl, rfl, rfl, trivial⟩, hw⟩
    · rintro ρ394 w395 ⟨f308, hle309, hl310, hw⟩
      first | refine ewp_live hl310 fun ρ396 => ?_ | rw [← hl310.eq]
      replace hs17 := hs17.mono hle309
      replace hk23 := hk23.mono hle309
      replace hk44 := hk44.mono hle309
      replace hk53 := hk53.mono hle309
      replace hk243 := hk243.mono hle309
      replace hk260 := hk260.mono hle309
      refine ewp_seq ?_
      refine ewp_region ?_
      refine el_val (v := (Value.slice A40 n41 c42)) (wanted_n rfl) rfl rfl (run_load1 (ad := ⟨b37, 0, none⟩) ta88 rfl (wd_cell 10 hw rfl rfl)) ?_
      refine el_val (v := (Value.pointer (some ⟨b191, 1, none⟩))) (wanted_n rfl) rfl rfl (run_fieldAddr tf34_1 (o := 0) rfl) ?_
      refine el_val (v := (Value.int .i64 p1.To)) (wanted_n rfl) rfl rfl (run_load1 (ad := ⟨b191, 1, none⟩) ta3 rfl (wd_cell 5 hw rfl rfl)) ?_
      obtain ⟨x397, hx398, h⟩ := bind_some h
      obtain ⟨b399, of400, es401, hA402, hc403, he404⟩ := arr_el hk44 hx398
      obtain rfl : es401 = _ := he404
      refine el_val (v := (Value.pointer (some (eAdr A40 ((p1.To).toNat * 1))))) (wanted_n rfl) rfl rfl (run_idx te88 ts4 rfl hk44.len rfl hx398 hA402) ?_
      refine el_val (v := (Value.bool x397)) (wanted_n rfl) rfl rfl (run_load1 (ad := (eAdr A40 ((p1.To).toNat * 1))) ta4 rfl (wd_arr 3 hw rfl hA402 (hc403 0 _ rfl))) ?_
      refine el_val (v := (Value.bool (!x397))) (wanted_n rfl) rfl rfl (run_pev (v := (Value.bool (!x397))) rfl) ?_
      refine el_nil ?_
      refine ewp_cond (!x397) rfl (fun hb405 => ?_) (fun hb405 => ?_)
      · replace h := ifb_t hb405 h
        refine ewp_seq ?_
        refine ewp_region ?_
        refine el_val (v := (Value.slice A40 n41 c42)) (wanted_n rfl) rfl rfl (run_load1 (ad := ⟨b37, 0, none⟩) ta88 rfl (wd_cell 10 hw rfl rfl)) ?_
        refine el_val (v := (Value.pointer (some ⟨b191, 1, none⟩))) (wanted_n rfl) rfl rfl (run_fieldAddr tf34_1 (o := 0) rfl) ?_
        refine el_val (v := (Value.int .i64 p1.To)) (wanted_n rfl) rfl rfl (run_load1 (ad := ⟨b191, 1, none⟩) ta3 rfl (wd_cell 5 hw rfl rfl)) ?_
        obtain ⟨b406, of407, es408, hA409, hc410, he411⟩ := arr_el hk44 hx398
        obtain rfl : es408 = _ := he411
        refine el_val (v := (Value.pointer (some (eAdr A40 ((p1.To).toNat * 1))))) (wanted_n rfl) rfl rfl (run_idx te88 ts4 rfl hk44.len rfl hx398 hA409) ?_
        replace hw := hw.front3
        refine el_exu (wanted_n rfl) rfl (run_arrSet (E := fBool) (y := true) hw hk44 hx398 rfl rfl ts4 rfl rfl) ?_
        rintro w414 ⟨cur412, hk413, hw⟩
        refine el_nil ?_
        refine ewp_region ?_
        refine el_val (v := (Value.slice A49 n50 c51)) (wanted_n rfl) rfl rfl (run_load1 (ad := ⟨b46, 0, none⟩) ta22 rfl (wd_cell 11 hw rfl rfl)) ?_
        refine el_val (v := (Value.pointer (some ⟨b191, 1, none⟩))) (wanted_n rfl) rfl rfl (run_fieldAddr tf34_1 (o := 0) rfl) ?_
        refine el_val (v := (Value.int .i64 p1.To)) (wanted_n rfl) rfl rfl (run_load1 (ad := ⟨b191, 1, none⟩) ta3 rfl (wd_cell 5 hw rfl rfl)) ?_
        refine el_exv (wanted_n rfl) rfl rfl (run_buildSliceE (parts := [(0, .tmp 92)]) (cs := [(Value.int .i64 p1.To)]) te22 ts3 tz3 rfl tm3_1 rfl hw) ?_
        rintro w417 _ ⟨b415, rfl, hw⟩
        obtain ⟨x418, hx419, h⟩ := bind_some h
        replace hw := hw.front5
        refine el_exv (wanted_n rfl) rfl rfl (run_arrApp1 (E := fInt .i64) tA22 hw hk53 rfl rfl rfl hx419) ?_
        rintro w425 _ ⟨A420, n421, c422, cur423, rfl, hk424, hw⟩
        replace hw := hw.front11
        refine el_exu (wanted_n rfl) rfl (run_blkSetE (new := List.toArray [(Value.slice A420 n421 c422)]) hw rfl rfl ts22 rfl rfl rfl) ?_
        rintro w426 hw
        refine el_nil ?_
        replace hw := hw.drop_6
        replace hw := hw.front2
        replace hw := hw.front10
        replace hw := hw.front10
        replace hw := hw.front5
        replace hw := hw.front10
        replace hw := hw.front8
        replace hw := hw.front8
        replace hw := hw.front10
        replace hw := hw.front10
        obtain rfl := Option.some.inj h
        exact ⟨_, res0 rfl, f308, cur242, cur259, cur412, A420, n421, c422, cur423, hle309, rfl, hk243, hk260, hk413, hk424, hw⟩
      · replace h := ifb_f hb405 h
        refine ewp_skip ?_
        replace hw := hw.drop_5
        replace hw := hw.front10
        replace hw := hw.front4
        replace hw := hw.front10
        replace hw := hw.front10
        replace hw := hw.front4
        replace hw := hw.front10
        replace hw := hw.front7
        replace hw := hw.front7
        replace hw := hw.front10
        replace hw := hw.front10
        obtain rfl := Option.some.inj h
        exact ⟨_, res0 rfl, f308, cur242, cur259, cur43, A49, n50, c51, cur52, hle309, rfl, hk243, hk260, hk44, hk53, hw⟩
def mend_greatest_int_b2  (i59 : Nat) (x60 : Int) (s45 : Int) : Option (Ctl (Int) (Ctl (Int) (Empty))) :=
  (some (.go (gmax s45 x60)))
def mend_greatest_int (p1 : Int) (p2 : List Int) : Option (Int) :=
  ((forC mend_greatest_int_b2 p2 p1).bind fun c57 => Ctl.on c57 (fun s45 => (some s45)) (fun x_ => x_.elim))
def mend_greatest_int.R (G : World) (f : HP) (L : List HProp) (A3 : Option Addr) (n4 : Nat) (c5 : Nat) (cur6 : Array Value) (p1 : Int) (p2 : List Int) (r : Int) : Value → World → Prop := fun v' w' =>
  ∃ (f' : HP), HP.le f f' ∧ v' = (Value.int .i64 r) ∧ Wd G w' f' (Arr A3 c5 cur6 :: L)
theorem mend_greatest_int.calls {G w : World} {f : HP} {L : List HProp} {A3 : Option Addr} {n4 : Nat} {c5 : Nat} {cur6 : Array Value} {p1 : Int} {p2 : List Int} (hw : Wd G w f (Arr A3 c5 cur6 :: L)) (hk7 : ArrOk f (fInt .i64) A3 n4 c5 cur6 p2) {r : Int} (h : mend_greatest_int p1 p2 = some r) :
    Calls Try.prog 54 #[(Value.int .i64 p1), (Value.slice A3 n4 c5)] w (Returns (mend_greatest_int.R G f L A3 n4 c5 cur6 p1 p2 r)) := by
  unfold mend_greatest_int at h
  refine ecalls 18 Try.func54 rfl rfl ?_
  refine ewp_seq ?_
  refine ewp_region ?_
  refine el_val (v := (Value.int .i64 0)) (wanted_n rfl) rfl rfl (run_pev (v := (Value.int .i64 0)) rfl) ?_
  refine el_nil ?_
  refine ewp_seq ?_
  refine ewp_seq ?_
  refine ewp_region ?_
  refine el_val (v := (Value.slice A3 n4 c5)) (wanted_n rfl) rfl rfl (run_pev (v := (Value.slice A3 n4 c5)) rfl) ?_
  refine el_val (v := (Value.int .i64 (p2.length : Int))) (wanted_n rfl) rfl rfl (run_lenS te22 rfl hk7.len) ?_
  refine el_val (v := (Value.int .i64 0)) (wanted_n rfl) rfl rfl (run_pev (v := (Value.int .i64 0)) rfl) ?_
  refine el_nil ?_
  obtain ⟨c57, hc58, h⟩ := bind_some h
  refine ewp_M (fun ρ' w' => ∃ s45, c57 = .go s45 ∧ ∃ (f46 : HP), HP.le f f46 ∧ Live ρ' [(0, (Value.int .i64 s45))] ∧ Wd G w' f46 (Arr A3 c5 cur6 :: L)) noE noX ?_ ?_ ?_ ?_
  · refine ewp_block ?_
    refine ewp_forC (fun (i59 : Nat) (s45 : Int) ρ' w' => ∃ (f46 : HP), HP.le f f46 ∧ Live ρ' [(0, (Value.int .i64 s45)), (7, (Value.slice A3 n4 c5)), (8, (Value.int .i64 (p2.length : Int))), (9, (Value.int .i64 (i59 : Int)))] ∧ Wd G w' f46 (Arr A3 c5 cur6 :: L)) hc58 ⟨f, (HP.le_refl _), ⟨rfl, rfl, rfl, rfl, trivial⟩, hw⟩ ?_ ?_
    · rintro i59 x60 s45 ct63 ρ61 w62 hx h ⟨f46, hle47, hl48, hw⟩
      unfold mend_greatest_int_b2 at h
      first | refine ewp_live hl48 fun ρ64 => ?_ | rw [← hl48.eq]
      replace hk7 := hk7.mono hle47
      refine ewp_seq ?_
      refine ewp_region ?_
      refine el_val (v := (Value.bool (decide ((i59 : Int) < (p2.length : Int))))) (wanted_n rfl) rfl rfl (run_pev (v := (Value.bool (decide ((i59 : Int) < (p2.length : Int))))) rfl) ?_
      refine el_nil ?_
      refine ewp_seq ?_
      refine ewp_cond_t rfl (lt_len hx) ?_
      refine ewp_skip ?_
      refine ewp_seq ?_
      refine ewp_block ?_
      refine ewp_seq ?_
      refine ewp_region ?_
      obtain ⟨b65, of66, es67, hA68, hc69, he70⟩ := arr_el hk7 (idx_nat hx)
      obtain rfl : es67 = _ := he70
      refine el_val (v := (Value.pointer (some (eAdr A3 (((i59 : Int)).toNat * 1))))) (wanted_n rfl) rfl rfl (run_idx te22 ts3 rfl hk7.len rfl (idx_nat hx) hA68) ?_
      refine el_val (v := (Value.int .i64 x60)) (wanted_n rfl) rfl rfl (run_load1 (ad := (eAdr A3 (((i59 : Int)).toNat * 1))) ta3 rfl (wd_arr 0 hw rfl hA68 (hc69 0 _ rfl))) ?_
      refine el_val (v := (Value.int .i64 x60)) (wanted_n rfl) rfl rfl (run_pev (v := (Value.int .i64 x60)) rfl) ?_
      refine el_nil ?_
      refine ewp_region ?_
      refine el_val (v := (Value.int .i64 s45)) (wanted_n rfl) rfl rfl (run_pev (v := (Value.int .i64 s45)) rfl) ?_
      refine el_val (v := (Value.int .i64 x60)) (wanted_n rfl) rfl rfl (run_pev (v := (Value.int .i64 x60)) rfl) ?_
      refine el_val (v := (Value.int .i64 (gmax s45 x60))) (wanted_n rfl) rfl rfl (run_max rfl rfl) ?_
      refine el_val (v := (Value.int .i64 (gmax s45 x60))) (wanted_n rfl) rfl rfl (run_pev (v := (Value.int .i64 (gmax s45 x60))) rfl) ?_
      refine el_nil ?_
      refine ewp_region ?_
      refine el_val (v := (Value.int .i64 (w64 ((i59 : Int) + 1)))) (wanted_n rfl) rfl rfl (run_pev (v := (Value.int .i64 (w64 ((i59 : Int) + 1)))) rfl) ?_
      refine el_val (v := (Value.int .i64 (w64 ((i59 : Int) + 1)))) (wanted_n rfl) rfl rfl (run_pev (v := (Value.int .i64 (w64 ((i59 : Int) + 1)))) rfl) ?_
      refine el_nil ?_
      obtain rfl := Option.some.inj h
      exact ⟨_, rfl, f46, hle47, ⟨rfl, rfl, rfl, (congrArg (Value.int .i64) (succ_w64 hk7.room hx)), trivial⟩, hw⟩
    · rintro s45 ρ71 w72 hfin73 ⟨f46, hle47, hl48, hw⟩
      first | refine ewp_live hl48 fun ρ74 => ?_ | rw [← hl48.eq]
      replace hk7 := hk7.mono hle47
      refine ewp_seq ?_
      refine ewp_region ?_
      refine el_val (v := (Value.bool (decide ((p2.length : Int) < (p2.length : Int))))) (wanted_n rfl) rfl rfl (run_pev (v := (Value.bool (decide ((p2.length : Int) < (p2.length : Int))))) rfl) ?_
      refine el_nil ?_
      refine ewp_seq ?_
      refine ewp_cond_f rfl (nlt_self _) ?_
      refine ewp_exit ?_
      exact ⟨s45, hfin73, f46, hle47, ⟨rfl, trivial⟩, hw⟩
  · rintro ρ75 w76 ⟨s45, rfl, f46, hle47, hl48, hw⟩
    replace h := on_go h
    first | refine ewp_live hl48 fun ρ77 => ?_ | rw [← hl48.eq]
    replace hk7 := hk7.mono hle47
    refine ewp_seq ?_
    refine ewp_region ?_
    refine el_val (v := (Value.int .i64 s45)) (wanted_n rfl) rfl rfl (run_pev (v := (Value.int .i64 s45)) rfl) ?_
    refine el_val (v := (Value.int .i64 s45)) (wanted_n rfl) rfl rfl (run_pev (v := (Value.int .i64 s45)) rfl) ?_
    refine el_nil ?_
    refine ewp_ret ?_
    obtain rfl := Option.some.inj h
    exact ⟨_, res1 rfl, f46, hle47, rfl, hw⟩
  · exact fun _ _ h => h.elim
  · exact fun _ _ _ h => h.elim
def mend_solver_bound_b7  (i276 : Nat) (x277 : S_mend_Arc) (s258 : Int) : Option (Ctl (Int) (Ctl (Int) (Empty))) :=
  (some (.go (gmax s258 x277.Len)))
def mend_solver_bound_b6  (i226 : Nat) (x227 : List S_mend_Arc) (s176 : Int) : Option (Ctl (Int) (Ctl (Int) (Empty))) :=
  ((forC mend_solver_bound_b7 x227 0).bind fun c274 => Ctl.on c274 (fun s258 => (some (.go (w64 (s176 + s258))))) (fun x_ => x_.elim))
def mend_solver_bound (p3 : List Int) (p10 : List Int) (p15 : List (List S_mend_Arc)) : Option (Int) :=
  ((mend_greatest_int 0 p3).bind fun (x123 : Int) => ((forC mend_solver_bound_b6 p15 x123).bind fun c224 => Ctl.on c224 (fun s176 => (some s176)) (fun x_ => x_.elim)))
def mend_solver_bound.R (G : World) (f : HP) (L : List HProp) (b1 : Nat) (A4 : Option Addr) (n5 : Nat) (c6 : Nat) (cur7 : Array Value) (A11 : Option Addr) (n12 : Nat) (c13 : Nat) (A16 : Option Addr) (n17 : Nat) (c18 : Nat) (cur19 : Array Value) (p3 : List Int) (p10 : List Int) (p15 : List (List S_mend_Arc)) (r : Int) : Value → World → Prop := fun v' w' =>
  ∃ (f' : HP), HP.le f f' ∧ v' = (Value.int .i64 r) ∧ Wd G w' f' (Blk b1 (.cells (List.toArray [(Value.slice A4 n5 c6), (Value.slice A11 n12 c13), (Value.slice A16 n17 c18)]) 73 (0, 0)) :: Arr A4 c6 cur7 :: Arr A16 c18 cur19 :: L)
theorem mend_solver_bound.calls {G w : World} {f : HP} {L : List HProp} {b1 : Nat} {A4 : Option Addr} {n5 : Nat} {c6 : Nat} {cur7 : Array Value} {A11 : Option Addr} {n12 : Nat} {c13 : Nat} {A16 : Option Addr} {n17 : Nat} {c18 : Nat} {cur19 : Array Value} {p3 : List Int} {p10 : List Int} {p15 : List (List S_mend_Arc)} (hw : Wd G w f (Blk b1 (.cells (List.toArray [(Value.slice A4 n5 c6), (Value.slice A11 n12 c13), (Value.slice A16 n17 c18)]) 73 (0, 0)) :: Arr A4 c6 cur7 :: Arr A16 c18 cur19 :: L)) (hk8 : ArrOk f (fInt .i64) A4 n5 c6 cur7 p3) (hs14 : SlF f (fInt .i64) A11 n12 c13 p10) (hk20 : ArrOk f (fSl fS_mend_Arc) A16 n17 c18 cur19 p15) {r : Int} (h : mend_solver_bound p3 p10 p15 = some r) :
    Calls Try.prog 62 #[(Value.pointer (some ⟨b1, 0, none⟩))] w (Returns (mend_solver_bound.R G f L b1 A4 n5 c6 cur7 A11 n12 c13 A16 n17 c18 cur19 p3 p10 p15 r)) := by
  unfold mend_solver_bound at h
  refine ecalls 39 Try.func62 rfl rfl ?_
  refine ewp_seq ?_
  refine ewp_region ?_
  refine el_val (v := (Value.int .i64 0)) (wanted_n rfl) rfl rfl (run_pev (v := (Value.int .i64 0)) rfl) ?_
  refine el_nil ?_
  refine ewp_seq ?_
  refine ewp_region ?_
  refine el_val (v := (Value.pointer (some ⟨b1, 0, none⟩))) (wanted_n rfl) rfl rfl (run_pev (v := (Value.pointer (some ⟨b1, 0, none⟩))) rfl) ?_
  refine el_val (v := (Value.pointer (some ⟨b1, 0, none⟩))) (wanted_n rfl) rfl rfl (run_pev (v := (Value.pointer (some ⟨b1, 0, none⟩))) rfl) ?_
  refine el_val (v := (Value.pointer (some ⟨b1, 0, none⟩))) (wanted_n rfl) rfl rfl (run_fieldAddr tf73_0 (o := 0) rfl) ?_
  refine el_val (v := (Value.slice A4 n5 c6)) (wanted_n rfl) rfl rfl (run_load1 (ad := ⟨b1, 0, none⟩) ta22 rfl (wd_cell 0 hw rfl rfl)) ?_
  obtain ⟨x123, hx124, h⟩ := bind_some h
  replace hw := hw.front1
  refine el_call (wanted_n rfl) rfl rfl (run_call (vals := (List.toArray [(Value.int .i64 0), (Value.slice A4 n5 c6)])) rfl cl54 rfl) (mend_greatest_int.calls hw hk8 hx124) ?_
  rintro _ w127 ⟨f125, hle126, rfl, hw⟩
  replace hk8 := hk8.mono hle126
  replace hs14 := hs14.mono hle126
  replace hk20 := hk20.mono hle126
  refine el_val (v := (Value.int .i64 x123)) (wanted_n rfl) rfl rfl (run_pev (v := (Value.int .i64 x123)) rfl) ?_
  refine el_nil ?_
  refine ewp_seq ?_
  refine ewp_seq ?_
  refine ewp_region ?_
  refine el_val (v := (Value.pointer (some ⟨b1, 0, none⟩))) (wanted_n rfl) rfl rfl (run_pev (v := (Value.pointer (some ⟨b1, 0, none⟩))) rfl) ?_
  refine el_val (v := (Value.pointer (some ⟨b1, 0, none⟩))) (wanted_n rfl) rfl rfl (run_pev (v := (Value.pointer (some ⟨b1, 0, none⟩))) rfl) ?_
  refine el_val (v := (Value.pointer (some ⟨b1, 2, none⟩))) (wanted_n rfl) rfl rfl (run_fieldAddr tf73_2 (o := 0) rfl) ?_
  refine el_val (v := (Value.slice A16 n17 c18)) (wanted_n rfl) rfl rfl (run_load1 (ad := ⟨b1, 2, none⟩) ta35 rfl (wd_cell 1 hw rfl rfl)) ?_
  refine el_val (v := (Value.int .i64 (p15.length : Int))) (wanted_n rfl) rfl rfl (run_lenS te35 rfl hk20.len) ?_
  refine el_val (v := (Value.int .i64 0)) (wanted_n rfl) rfl rfl (run_pev (v := (Value.int .i64 0)) rfl) ?_
  refine el_nil ?_
  obtain ⟨c224, hc225, h⟩ := bind_some h
  refine ewp_M (fun ρ' w' => ∃ s176, c224 = .go s176 ∧ ∃ (f177 : HP), HP.le f125 f177 ∧ Live ρ' [(3, (Value.int .i64 s176))] ∧ Wd G w' f177 (Arr A4 c6 cur7 :: Arr A16 c18 cur19 :: Blk b1 (.cells (List.toArray [(Value.slice A4 n5 c6), (Value.slice A11 n12 c13), (Value.slice A16 n17 c18)]) 73 (0, 0)) :: L)) noE noX ?_ ?_ ?_ ?_
  · refine ewp_block ?_
    replace hw := hw.front2
    replace hw := hw.front1
    refine ewp_forC (fun (i226 : Nat) (s176 : Int) ρ' w' => ∃ (f177 : HP), HP.le f125 f177 ∧ Live ρ' [(3, (Value.int .i64 s176)), (17, (Value.slice A16 n17 c18)), (18, (Value.int .i64 (p15.length : Int))), (19, (Value.int .i64 (i226 : Int)))] ∧ Wd G w' f177 (Arr A4 c6 cur7 :: Arr A16 c18 cur19 :: Blk b1 (.cells (List.toArray [(Value.slice A4 n5 c6), (Value.slice A11 n12 c13), (Value.slice A16 n17 c18)]) 73 (0, 0)) :: L)) hc225 ⟨f125, (HP.le_refl _), ⟨rfl, rfl, rfl, rfl, trivial⟩, hw⟩ ?_ ?_
    · rintro i226 x227 s176 ct230 ρ228 w229 hx h ⟨f177, hle178, hl179, hw⟩
      unfold mend_solver_bound_b6 at h
      first | refine ewp_live hl179 fun ρ231 => ?_ | rw [← hl179.eq]
      replace hk8 := hk8.mono hle178
      replace hs14 := hs14.mono hle178
      replace hk20 := hk20.mono hle178
      refine ewp_seq ?_
      refine ewp_region ?_
      refine el_val (v := (Value.bool (decide ((i226 : Int) < (p15.length : Int))))) (wanted_n rfl) rfl rfl (run_pev (v := (Value.bool (decide ((i226 : Int) < (p15.length : Int))))) rfl) ?_
      refine el_nil ?_
      refine ewp_seq ?_
      refine ewp_cond_t rfl (lt_len hx) ?_
      refine ewp_skip ?_
      refine ewp_seq ?_
      refine ewp_block ?_
      refine ewp_seq ?_
      refine ewp_region ?_
      obtain ⟨b232, of233, es234, hA235, hc236, he237⟩ := arr_el hk20 (idx_nat hx)
      obtain ⟨A238, n239, c240, rfl, hs241⟩ := he237
      refine el_val (v := (Value.pointer (some (eAdr A16 (((i226 : Int)).toNat * 1))))) (wanted_n rfl) rfl rfl (run_idx te35 ts23 rfl hk20.len rfl (idx_nat hx) hA235) ?_
      refine el_val (v := (Value.slice A238 n239 c240)) (wanted_n rfl) rfl rfl (run_load1 (ad := (eAdr A16 (((i226 : Int)).toNat * 1))) ta23 rfl (wd_arr 1 hw rfl hA235 (hc236 0 _ rfl))) ?_
      refine el_val (v := (Value.slice A238 n239 c240)) (wanted_n rfl) rfl rfl (run_pev (v := (Value.slice A238 n239 c240)) rfl) ?_
      refine el_nil ?_
      refine ewp_seq ?_
      refine ewp_region ?_
      refine el_val (v := (Value.int .i64 0)) (wanted_n rfl) rfl rfl (run_pev (v := (Value.int .i64 0)) rfl) ?_
      refine el_nil ?_
      refine ewp_seq ?_
      refine ewp_seq ?_
      refine ewp_region ?_
      refine el_val (v := (Value.slice A238 n239 c240)) (wanted_n rfl) rfl rfl (run_pev (v := (Value.slice A238 n239 c240)) rfl) ?_
      refine el_val (v := (Value.int .i64 (x227.length : Int))) (wanted_n rfl) rfl rfl (run_lenS te23 rfl hs241.len) ?_
      refine el_val (v := (Value.int .i64 0)) (wanted_n rfl) rfl rfl (run_pev (v := (Value.int .i64 0)) rfl) ?_
      refine el_nil ?_
      obtain ⟨c274, hc275, h⟩ := bind_some h
      refine ewp_M (fun ρ' w' => ∃ s258, c274 = .go s258 ∧ ∃ (f259 : HP), HP.le f177 f259 ∧ Live ρ' [(3, (Value.int .i64 s176)), (6, (Value.int .i64 s258)), (17, (Value.slice A16 n17 c18)), (18, (Value.int .i64 (p15.length : Int))), (19, (Value.int .i64 (i226 : Int)))] ∧ Wd G w' f259 (Arr A4 c6 cur7 :: Arr A16 c18 cur19 :: Blk b1 (.cells (List.toArray [(Value.slice A4 n5 c6), (Value.slice A11 n12 c13), (Value.slice A16 n17 c18)]) 73 (0, 0)) :: L)) noE noX ?_ ?_ ?_ ?_
      · refine ewp_block ?_
        refine ewp_forC (fun (i276 : Nat) (s258 : Int) ρ' w' => ∃ (f259 : HP), HP.le f177 f259 ∧ Live ρ' [(3, (Value.int .i64 s176)), (6, (Value.int .i64 s258)), (17, (Value.slice A16 n17 c18)), (18, (Value.int .i64 (p15.length : Int))), (19, (Value.int .i64 (i226 : Int))), (23, (Value.slice A238 n239 c240)), (24, (Value.int .i64 (x227.length : Int))), (25, (Value.int .i64 (i276 : Int)))] ∧ Wd G w' f259 (Arr A4 c6 cur7 :: Arr A16 c18 cur19 :: Blk b1 (.cells (List.toArray [(Value.slice A4 n5 c6), (Value.slice A11 n12 c13), (Value.slice A16 n17 c18)]) 73 (0, 0)) :: L)) hc275 ⟨f177, (HP.le_refl _), ⟨rfl, rfl, rfl, rfl, rfl, rfl, rfl, rfl, trivial⟩, hw⟩ ?_ ?_
        · rintro i276 x277 s258 ct280 ρ278 w279 hx h ⟨f259, hle260, hl261, hw⟩
          unfold mend_solver_bound_b7 at h
          first | refine ewp_live hl261 fun ρ281 => ?_ | rw [← hl261.eq]
          replace hk8 := hk8.mono hle260
          replace hs14 := hs14.mono hle260
          replace hk20 := hk20.mono hle260
          replace hs241 := hs241.mono hle260
          refine ewp_seq ?_
          refine ewp_region ?_
          refine el_val (v := (Value.bool (decide ((i276 : Int) < (x227.length : Int))))) (wanted_n rfl) rfl rfl (run_pev (v := (Value.bool (decide ((i276 : Int) < (x227.length : Int))))) rfl) ?_
          refine el_nil ?_
          refine ewp_seq ?_
          refine ewp_cond_t rfl (lt_len hx) ?_
          refine ewp_skip ?_
          refine ewp_seq ?_
          refine ewp_block ?_
          refine ewp_seq ?_
          refine ewp_region ?_
          obtain ⟨b282, of283, es284, hA285, hc286, he287⟩ := sl_el hs241 (idx_nat hx)
          obtain rfl := fS_mend_Arc.op he287
          refine el_val (v := (Value.pointer (some (eAdr A238 (((i276 : Int)).toNat * 3))))) (wanted_n rfl) rfl rfl (run_idx te23 ts34 rfl hs241.len rfl (idx_nat hx) hA285) ?_
          refine el_val (v := (Value.agg #[(Value.int .i64 x277.From), (Value.int .i64 x277.To), (Value.int .i64 x277.Len)])) (wanted_n rfl) rfl rfl (run_loadN (ad := (eAdr A238 (((i276 : Int)).toNat * 3))) (cs := [(Value.int .i64 x277.From), (Value.int .i64 x277.To), (Value.int .i64 x277.Len)]) ta34 ts34 rfl rfl (fz_cells hw hc286)) ?_
          refine el_exv (wanted_n rfl) rfl rfl (run_allocE (cs := [(Value.int .i64 0), (Value.int .i64 0), (Value.int .i64 0)]) tz34 rfl hw) ?_
          rintro w290 _ ⟨b288, rfl, hw⟩
          refine el_exu (wanted_n rfl) rfl (run_blkSetE (new := List.toArray [(Value.int .i64 x277.From), (Value.int .i64 x277.To), (Value.int .i64 x277.Len)]) hw rfl rfl ts34 rfl rfl rfl) ?_
          rintro w291 hw
          refine el_nil ?_
          refine ewp_region ?_
          refine el_val (v := (Value.int .i64 s258)) (wanted_n rfl) rfl rfl (run_pev (v := (Value.int .i64 s258)) rfl) ?_
          refine el_val (v := (Value.pointer (some ⟨b288, 2, none⟩))) (wanted_n rfl) rfl rfl (run_fieldAddr tf34_2 (o := 0) rfl) ?_
          refine el_val (v := (Value.int .i64 x277.Len)) (wanted_n rfl) rfl rfl (run_load1 (ad := ⟨b288, 2, none⟩) ta3 rfl (wd_cell 0 hw rfl rfl)) ?_
          refine el_val (v := (Value.int .i64 (gmax s258 x277.Len))) (wanted_n rfl) rfl rfl (run_max rfl rfl) ?_
          refine el_val (v := (Value.int .i64 (gmax s258 x277.Len))) (wanted_n rfl) rfl rfl (run_pev (v := (Value.int .i64 (gmax s258 x277.Len))) rfl) ?_
          refine el_nil ?_
          refine ewp_region ?_
          refine el_val (v := (Value.int .i64 (w64 ((i276 : Int) + 1)))) (wanted_n rfl) rfl rfl (run_pev (v := (Value.int .i64 (w64 ((i276 : Int) + 1)))) rfl) ?_
          refine el_val (v := (Value.int .i64 (w64 ((i276 : Int) + 1)))) (wanted_n rfl) rfl rfl (run_pev (v := (Value.int .i64 (w64 ((i276 : Int) + 1)))) rfl) ?_
          refine el_nil ?_
          replace hw := hw.drop_0
          obtain rfl := Option.some.inj h
          exact ⟨_, rfl, f259, hle260, ⟨rfl, rfl, rfl, rfl, rfl, rfl, rfl, (congrArg (Value.int .i64) (succ_w64 hs241.room hx)), trivial⟩, hw⟩
        · rintro s258 ρ292 w293 hfin294 ⟨f259, hle260, hl261, hw⟩
          first | refine ewp_live hl261 fun ρ295 => ?_ | rw [← hl261.eq]
          replace hk8 := hk8.mono hle260
          replace hs14 := hs14.mono hle260
          replace hk20 := hk20.mono hle260
          replace hs241 := hs241.mono hle260
          refine ewp_seq ?_
          refine ewp_region ?_
          refine el_val (v := (Value.bool (decide ((x227.length : Int) < (x227.length : Int))))) (wanted_n rfl) rfl rfl (run_pev (v := (Value.bool (decide ((x227.length : Int) < (x227.length : Int))))) rfl) ?_
          refine el_nil ?_
          refine ewp_seq ?_
          refine ewp_cond_f rfl (nlt_self _) ?_
          refine ewp_exit ?_
          exact ⟨s258, hfin294, f259, hle260, ⟨rfl, rfl, rfl, rfl, rfl, trivial⟩, hw⟩
      · rintro ρ296 w297 ⟨s258, rfl, f259, hle260, hl261, hw⟩
        replace h := on_go h
        first | refine ewp_live hl261 fun ρ298 => ?_ | rw [← hl261.eq]
        replace hk8 := hk8.mono hle260
        replace hs14 := hs14.mono hle260
        replace hk20 := hk20.mono hle260
        replace hs241 := hs241.mono hle260
        refine ewp_region ?_
        refine el_val (v := (Value.int .i64 s176)) (wanted_n rfl) rfl rfl (run_pev (v := (Value.int .i64 s176)) rfl) ?_
        refine el_val (v := (Value.int .i64 s258)) (wanted_n rfl) rfl rfl (run_pev (v := (Value.int .i64 s258)) rfl) ?_
        refine el_val (v := (Value.int .i64 (w64 (s176 + s258)))) (wanted_n rfl) rfl rfl (run_pev (v := (Value.int .i64 (w64 (s176 + s258)))) rfl) ?_
        refine el_val (v := (Value.int .i64 (w64 (s176 + s258)))) (wanted_n rfl) rfl rfl (run_pev (v := (Value.int .i64 (w64 (s176 + s258)))) rfl) ?_
        refine el_nil ?_
        refine ewp_region ?_
        refine el_val (v := (Value.int .i64 (w64 ((i226 : Int) + 1)))) (wanted_n rfl) rfl rfl (run_pev (v := (Value.int .i64 (w64 ((i226 : Int) + 1)))) rfl) ?_
        refine el_val (v := (Value.int .i64 (w64 ((i226 : Int) + 1)))) (wanted_n rfl) rfl rfl (run_pev (v := (Value.int .i64 (w64 ((i226 : Int) + 1)))) rfl) ?_
        refine el_nil ?_
        obtain rfl := Option.some.inj h
        exact ⟨_, rfl, f259, (HP.le_trans hle178 hle260), ⟨rfl, rfl, rfl, (congrArg (Value.int .i64) (succ_w64 hk20.room hx)), trivial⟩, hw⟩
      · exact fun _ _ h => h.elim
      · exact fun _ _ _ h => h.elim
    · rintro s176 ρ299 w300 hfin301 ⟨f177, hle178, hl179, hw⟩
      first | refine ewp_live hl179 fun ρ302 => ?_ | rw [← hl179.eq]
      replace hk8 := hk8.mono hle178
      replace hs14 := hs14.mono hle178
      replace hk20 := hk20.mono hle178
      refine ewp_seq ?_
      refine ewp_region ?_
      refine el_val (v := (Value.bool (decide ((p15.length : Int) < (p15.length : Int))))) (wanted_n rfl) rfl rfl (run_pev (v := (Value.bool (decide ((p15.length : Int) < (p15.length : Int))))) rfl) ?_
      refine el_nil ?_
      refine ewp_seq ?_
      refine ewp_cond_f rfl (nlt_self _) ?_
      refine ewp_exit ?_
      exact ⟨s176, hfin301, f177, hle178, ⟨rfl, trivial⟩, hw⟩
  · rintro ρ303 w304 ⟨s176, rfl, f177, hle178, hl179, hw⟩
    replace h := on_go h
    first | refine ewp_live hl179 fun ρ305 => ?_ | rw [← hl179.eq]
    replace hk8 := hk8.mono hle178
    replace hs14 := hs14.mono hle178
    replace hk20 := hk20.mono hle178
    refine ewp_seq ?_
    refine ewp_region ?_
    refine el_val (v := (Value.int .i64 s176)) (wanted_n rfl) rfl rfl (run_pev (v := (Value.int .i64 s176)) rfl) ?_
    refine el_val (v := (Value.int .i64 s176)) (wanted_n rfl) rfl rfl (run_pev (v := (Value.int .i64 s176)) rfl) ?_
    refine el_nil ?_
    refine ewp_ret ?_
    replace hw := hw.front2
    obtain rfl := Option.some.inj h
    exact ⟨_, res1 rfl, f177, (HP.le_trans hle126 hle178), rfl, hw⟩
  · exact fun _ _ h => h.elim
  · exact fun _ _ _ h => h.elim
end Hk
