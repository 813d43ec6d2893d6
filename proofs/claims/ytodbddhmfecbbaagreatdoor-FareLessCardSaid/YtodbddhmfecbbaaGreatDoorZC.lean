/- FareLess: the card follows from the plain law FareLessLaw. Printed by a tool. -/
import Derived.Test.YtodbddhmfecbbaaGreatDoorZa
import Derived.Test.YtodbddhmfecbbaaGreatDoorK5
import Derived.Test.YtodbddhmfecbbaaGreatDoorG1
import Derived.Test.YtodbddhmfecbbaaGreatDoorRows
import Derived.Test.YtodbddhmfecbbaaGreatDoorTie
import Derived.Test.YtodbddhmfecbbaaGreatDoorCards
import Derived.JoinedCond
import Derived.LaidMore
import Derived.LaidLaws
import Derived.LaidHandle
import Derived.OpenShut
import Derived.Stop.Joined
import Derived.SevenTiedAt
set_option linter.unusedVariables false
set_option linter.unusedSimpArgs false
set_option maxRecDepth 20000
set_option maxHeartbeats 2000000
namespace Go.Proofs.YtodbddhmfecbbaaGreatDoor.FareLess
open Hk Hd Go.ChangeShapes Go.WideShapes Go.ChangeAt Go.RowKit
theorem ce25 : Tryz.prog.cellsOf 25 = 4 := by kernel_rfl
theorem ce4 : Tryz.prog.cellsOf 4 = 1 := by kernel_rfl
theorem ud4 : Tryz.prog.underlying 4 = some .bool := by kernel_rfl
theorem opn4 : Opn Tryz.prog 4 fBool (fun _ => True) := opn_bool ud4 ce4
theorem ce22 : Tryz.prog.cellsOf 22 = 1 := by kernel_rfl
theorem ce84 : Tryz.prog.cellsOf 84 = 2 := by kernel_rfl
theorem ce3 : Tryz.prog.cellsOf 3 = 1 := by kernel_rfl
theorem ud3 : Tryz.prog.underlying 3 = some (.int .i64) := by kernel_rfl
theorem opn3 : Opn Tryz.prog 3 (fInt .i64) I64 := opn_int ud3 ce3
def okS_fare_Band (x : S_fare_Band) : Prop := I64 x.Upto ∧ I64 x.Price
theorem fs84 : tyFs Tryz.prog 84 = some [(3, 0), (3, 1)] := by kernel_rfl
theorem opn84 : Opn Tryz.prog 84 fS_fare_Band okS_fare_Band := ⟨ce84, by decide, fun h => by
  obtain ⟨hl, n, hf⟩ := trod_fs fs84 h
  rw [ce84] at hl
  obtain ⟨_, h0⟩ := hf (3, 0) (by decide)
  obtain ⟨y0, h0, k0⟩ := opn3.go h0
  simp only [ce3] at h0
  obtain ⟨_, h1⟩ := hf (3, 1) (by decide)
  obtain ⟨y1, h1, k1⟩ := opn3.go h1
  simp only [ce3] at h1
  have hp : fS_fare_Band.p _ (_ : List Value) (⟨y0, y1⟩ : S_fare_Band) := fp_cons h0 (fp_last (by rw [hl]; rfl) h1)
  rw [List.drop_zero] at hp
  exact ⟨_, hp, k0, k1⟩⟩
theorem ud22 : Tryz.prog.underlying 22 = some (.slice 84) := by kernel_rfl
theorem opn22 : Opn Tryz.prog 22 (fSl fS_fare_Band) (AllOk okS_fare_Band) := opn_slice ud22 ce22 opn84
theorem ce23 : Tryz.prog.cellsOf 23 = 1 := by kernel_rfl
theorem ce89 : Tryz.prog.cellsOf 89 = 7 := by kernel_rfl
theorem ce87 : Tryz.prog.cellsOf 87 = 4 := by kernel_rfl
theorem ud85 : Tryz.prog.underlying 85 = some (.slice 87) := by kernel_rfl
theorem ce85 : Tryz.prog.cellsOf 85 = 1 := by kernel_rfl
def okS_fare_Cond (x : S_fare_Cond) : Prop := True
theorem fs87 : tyFs Tryz.prog 87 = some [(3, 0), (3, 1), (3, 2), (85, 3)] := by kernel_rfl
theorem opn87 : Opn Tryz.prog 87 fS_fare_Cond okS_fare_Cond := ⟨ce87, by decide, fun {H enc w base sp held fuel cs x} h => by
  suffices key : ∀ (fuel : Nat) (cs : List Value) x, DataW.trod enc Tryz.prog w base sp held fuel 87 cs = some x → ∃ y, fS_fare_Cond.p (wh w) cs y ∧ okS_fare_Cond y from key _ _ _ h
  intro fuel
  induction fuel using Nat.strongRecOn with
  | _ fuel ih =>
  intro cs x h
  obtain ⟨hl, n, hn, hf⟩ := trod_fsF fs87 h
  rw [ce87] at hl
  obtain ⟨_, h0⟩ := hf (3, 0) (by decide)
  obtain ⟨y0, h0, k0⟩ := opn3.go h0
  simp only [ce3] at h0
  obtain ⟨_, h1⟩ := hf (3, 1) (by decide)
  obtain ⟨y1, h1, k1⟩ := opn3.go h1
  simp only [ce3] at h1
  obtain ⟨_, h2⟩ := hf (3, 2) (by decide)
  obtain ⟨y2, h2, k2⟩ := opn3.go h2
  simp only [ce3] at h2
  obtain ⟨_, h3⟩ := hf (85, 3) (by decide)
  obtain ⟨y3, h3, k3⟩ := slice_go (E := fS_fare_Cond) (ok := okS_fare_Cond) ud85 ce87 (by decide) (fun m cs x hm h => ih m (by omega) cs x h) h3
  simp only [ce85] at h3
  have hp : (fS_fare_Cond_G fS_fare_Cond).p _ (_ : List Value) (⟨y0, y1, y2, y3⟩ : S_fare_Cond) := fp_cons h0 (fp_cons h1 (fp_cons h2 (fp_last (by rw [hl]; rfl) h3)))
  rw [List.drop_zero] at hp
  exact ⟨_, (recR_eq fS_fare_Cond_n fS_fare_Cond_c _ _ _).2 hp, trivial⟩⟩
def okS_fare_Rule (x : S_fare_Rule) : Prop := okS_fare_Cond x.If ∧ I64 x.Do ∧ I64 x.N ∧ (fun _ => True) x.Stop
theorem fs89 : tyFs Tryz.prog 89 = some [(87, 0), (3, 4), (3, 5), (4, 6)] := by kernel_rfl
theorem opn89 : Opn Tryz.prog 89 fS_fare_Rule okS_fare_Rule := ⟨ce89, by decide, fun h => by
  obtain ⟨hl, n, hf⟩ := trod_fs fs89 h
  rw [ce89] at hl
  obtain ⟨_, h0⟩ := hf (87, 0) (by decide)
  obtain ⟨y0, h0, k0⟩ := opn87.go h0
  simp only [ce87] at h0
  obtain ⟨_, h1⟩ := hf (3, 4) (by decide)
  obtain ⟨y1, h1, k1⟩ := opn3.go h1
  simp only [ce3] at h1
  obtain ⟨_, h2⟩ := hf (3, 5) (by decide)
  obtain ⟨y2, h2, k2⟩ := opn3.go h2
  simp only [ce3] at h2
  obtain ⟨_, h3⟩ := hf (4, 6) (by decide)
  obtain ⟨y3, h3, k3⟩ := opn4.go h3
  simp only [ce4] at h3
  have hp : fS_fare_Rule.p _ (_ : List Value) (⟨y0, y1, y2, y3⟩ : S_fare_Rule) := fp_cons h0 (fp_cons h1 (fp_cons h2 (fp_last (by rw [hl]; rfl) h3)))
  rw [List.drop_zero] at hp
  exact ⟨_, hp, k0, k1, k2, k3⟩⟩
theorem ud23 : Tryz.prog.underlying 23 = some (.slice 89) := by kernel_rfl
theorem opn23 : Opn Tryz.prog 23 (fSl fS_fare_Rule) (AllOk okS_fare_Rule) := opn_slice ud23 ce23 opn89
def okS_fare_Tariff (x : S_fare_Tariff) : Prop := (fun _ => True) x.ByKm ∧ (AllOk okS_fare_Band) x.Bands ∧ I64 x.Round ∧ (AllOk okS_fare_Rule) x.Rules
theorem fs25 : tyFs Tryz.prog 25 = some [(4, 0), (22, 1), (3, 2), (23, 3)] := by kernel_rfl
theorem opn25 : Opn Tryz.prog 25 fS_fare_Tariff okS_fare_Tariff := ⟨ce25, by decide, fun h => by
  obtain ⟨hl, n, hf⟩ := trod_fs fs25 h
  rw [ce25] at hl
  obtain ⟨_, h0⟩ := hf (4, 0) (by decide)
  obtain ⟨y0, h0, k0⟩ := opn4.go h0
  simp only [ce4] at h0
  obtain ⟨_, h1⟩ := hf (22, 1) (by decide)
  obtain ⟨y1, h1, k1⟩ := opn22.go h1
  simp only [ce22] at h1
  obtain ⟨_, h2⟩ := hf (3, 2) (by decide)
  obtain ⟨y2, h2, k2⟩ := opn3.go h2
  simp only [ce3] at h2
  obtain ⟨_, h3⟩ := hf (23, 3) (by decide)
  obtain ⟨y3, h3, k3⟩ := opn23.go h3
  simp only [ce23] at h3
  have hp : fS_fare_Tariff.p _ (_ : List Value) (⟨y0, y1, y2, y3⟩ : S_fare_Tariff) := fp_cons h0 (fp_cons h1 (fp_cons h2 (fp_last (by rw [hl]; rfl) h3)))
  rw [List.drop_zero] at hp
  exact ⟨_, hp, k0, k1, k2, k3⟩⟩
theorem ce26 : Tryz.prog.cellsOf 26 = 1 := by kernel_rfl
theorem ce38 : Tryz.prog.cellsOf 38 = 6 := by kernel_rfl
theorem ce27 : Tryz.prog.cellsOf 27 = 1 := by kernel_rfl
theorem ud27 : Tryz.prog.underlying 27 = some (.slice 3) := by kernel_rfl
theorem opn27 : Opn Tryz.prog 27 (fSl (fInt .i64)) (AllOk I64) := opn_slice ud27 ce27 opn3
def okS_fare_Trip (x : S_fare_Trip) : Prop := I64 x.Day ∧ I64 x.At ∧ I64 x.Km ∧ I64 x.Age ∧ (fun _ => True) x.Card ∧ (AllOk I64) x.Zones
theorem fs38 : tyFs Tryz.prog 38 = some [(3, 0), (3, 1), (3, 2), (3, 3), (4, 4), (27, 5)] := by kernel_rfl
theorem opn38 : Opn Tryz.prog 38 fS_fare_Trip okS_fare_Trip := ⟨ce38, by decide, fun h => by
  obtain ⟨hl, n, hf⟩ := trod_fs fs38 h
  rw [ce38] at hl
  obtain ⟨_, h0⟩ := hf (3, 0) (by decide)
  obtain ⟨y0, h0, k0⟩ := opn3.go h0
  simp only [ce3] at h0
  obtain ⟨_, h1⟩ := hf (3, 1) (by decide)
  obtain ⟨y1, h1, k1⟩ := opn3.go h1
  simp only [ce3] at h1
  obtain ⟨_, h2⟩ := hf (3, 2) (by decide)
  obtain ⟨y2, h2, k2⟩ := opn3.go h2
  simp only [ce3] at h2
  obtain ⟨_, h3⟩ := hf (3, 3) (by decide)
  obtain ⟨y3, h3, k3⟩ := opn3.go h3
  simp only [ce3] at h3
  obtain ⟨_, h4⟩ := hf (4, 4) (by decide)
  obtain ⟨y4, h4, k4⟩ := opn4.go h4
  simp only [ce4] at h4
  obtain ⟨_, h5⟩ := hf (27, 5) (by decide)
  obtain ⟨y5, h5, k5⟩ := opn27.go h5
  simp only [ce27] at h5
  have hp : fS_fare_Trip.p _ (_ : List Value) (⟨y0, y1, y2, y3, y4, y5⟩ : S_fare_Trip) := fp_cons h0 (fp_cons h1 (fp_cons h2 (fp_cons h3 (fp_cons h4 (fp_last (by rw [hl]; rfl) h5)))))
  rw [List.drop_zero] at hp
  exact ⟨_, hp, k0, k1, k2, k3, k4, k5⟩⟩
theorem ud26 : Tryz.prog.underlying 26 = some (.slice 38) := by kernel_rfl
theorem opn26 : Opn Tryz.prog 26 (fSl fS_fare_Trip) (AllOk okS_fare_Trip) := opn_slice ud26 ce26 opn38
theorem ce29 : Tryz.prog.cellsOf 29 = 3 := by kernel_rfl
def okS_fare_Pass (x : S_fare_Pass) : Prop := I64 x.Days ∧ I64 x.Price ∧ (AllOk I64) x.Zones
theorem fs29 : tyFs Tryz.prog 29 = some [(3, 0), (3, 1), (27, 2)] := by kernel_rfl
theorem opn29 : Opn Tryz.prog 29 fS_fare_Pass okS_fare_Pass := ⟨ce29, by decide, fun h => by
  obtain ⟨hl, n, hf⟩ := trod_fs fs29 h
  rw [ce29] at hl
  obtain ⟨_, h0⟩ := hf (3, 0) (by decide)
  obtain ⟨y0, h0, k0⟩ := opn3.go h0
  simp only [ce3] at h0
  obtain ⟨_, h1⟩ := hf (3, 1) (by decide)
  obtain ⟨y1, h1, k1⟩ := opn3.go h1
  simp only [ce3] at h1
  obtain ⟨_, h2⟩ := hf (27, 2) (by decide)
  obtain ⟨y2, h2, k2⟩ := opn27.go h2
  simp only [ce27] at h2
  have hp : fS_fare_Pass.p _ (_ : List Value) (⟨y0, y1, y2⟩ : S_fare_Pass) := fp_cons h0 (fp_cons h1 (fp_last (by rw [hl]; rfl) h2))
  rw [List.drop_zero] at hp
  exact ⟨_, hp, k0, k1, k2⟩⟩
theorem laid : laidOutB Tryz.prog = true := by kernel_rfl
theorem own : ownKnob Tryz.prog.godebug = none := by kernel_rfl
theorem pars : Tryz.f3.params = #[25, 26, 29, 29] := rfl
theorem rr25 : Tryz.prog.readableRec 25 = true := by kernel_rfl
theorem rs25 : (25 : TypeId) < Tryz.prog.types.size := of_decide_eq_true (by kernel_rfl)
theorem rr26 : Tryz.prog.readableRec 26 = true := by kernel_rfl
theorem rs26 : (26 : TypeId) < Tryz.prog.types.size := of_decide_eq_true (by kernel_rfl)
theorem rr29 : Tryz.prog.readableRec 29 = true := by kernel_rfl
theorem rs29 : (29 : TypeId) < Tryz.prog.types.size := of_decide_eq_true (by kernel_rfl)
def FareLessLaw : Prop := ∀ (x0 : S_fare_Tariff) (x1 : List S_fare_Trip) (x2 : S_fare_Pass) (x3 : S_fare_Pass), okS_fare_Tariff x0 → (AllOk okS_fare_Trip) x1 → okS_fare_Pass x2 → okS_fare_Pass x3 → fishkeep2_FareLess x0 x1 x2 x3 = some true
theorem contract (law : FareLessLaw) (H : Type) (enc : TypeId × Value → H) (W : World) (base : Nat) (args : Array Value) (ds gs : List (DataW H)) (before : List MemPlace)
    (hval : ∀ (j : Nat) t v, Tryz.f3.params[j]? = some t → args[j]? = some v → Value.okWide Tryz.prog W .any base t v)
    (hW : DataW.Whole enc Tryz.prog Tryz.f3.params.toList Rows.fareLessSpec.vars false W args.toList ds gs before) :
    Calls Tryz.prog 3 args W fun e W' => ∃ v, e = .returned v ∧ Rows.fareLessSpec.post enc Tryz.prog Tryz.f3 false true false false W args v W' := by
  have hW0 := hW
  obtain ⟨p, q, hA, hV, rfl, hfz, hnd⟩ := hW
  rw [pars] at hA hval
  obtain ⟨v0, vs0, d0, ds0, p0, q0, e0, g0, b0, h0, r0⟩ := trodAll_cons hA
  obtain ⟨v1, vs1, d1, ds1, p1, q1, e1, g1, b1, h1, r1⟩ := trodAll_cons r0
  obtain ⟨v2, vs2, d2, ds2, p2, q2, e2, g2, b2, h2, r2⟩ := trodAll_cons r1
  obtain ⟨v3, vs3, d3, ds3, p3, q3, e3, g3, b3, h3, r3⟩ := trodAll_cons r2
  obtain ⟨z1, z2, z3⟩ := trodAll_nil r3
  subst z1 z2
  subst e3 g3
  subst e2 g2
  subst e1 g1
  subst g0
  obtain rfl : args = #[v0, v1, v2, v3] := by cases args; simp_all
  have hgs : gs = [] := by cases gs with | nil => rfl | cons g l => exact hV.elim
  subst hgs
  have ok0 := hval 0 25 v0 rfl rfl
  obtain ⟨fu0, h0⟩ := h0
  obtain ⟨x0, h0, k0⟩ := opn25.go h0
  obtain ⟨cs0, rfl⟩ := okWide_agg fs25 ok0
  replace h0 : fS_fare_Tariff.p (wh W) cs0.toList x0 := h0
  have ok1 := hval 1 26 v1 rfl rfl
  obtain ⟨fu1, h1⟩ := h1
  obtain ⟨x1, h1, k1⟩ := opn26.go h1
  obtain ⟨A1, n1, c1, hc1, hs1⟩ := h1
  obtain rfl := okWide_sl ud26 ok1 hc1
  have ok2 := hval 2 29 v2 rfl rfl
  obtain ⟨fu2, h2⟩ := h2
  obtain ⟨x2, h2, k2⟩ := opn29.go h2
  obtain ⟨cs2, rfl⟩ := okWide_agg fs29 ok2
  replace h2 : fS_fare_Pass.p (wh W) cs2.toList x2 := h2
  have ok3 := hval 3 29 v3 rfl rfl
  obtain ⟨fu3, h3⟩ := h3
  obtain ⟨x3, h3, k3⟩ := opn29.go h3
  obtain ⟨cs3, rfl⟩ := okWide_agg fs29 ok3
  replace h3 : fS_fare_Pass.p (wh W) cs3.toList x3 := h3
  have hlaw := law x0 x1 x2 x3 k0 k1 k2 k3
  refine (root_calls (B := tab) (vs := [.dat (.st 3), .one (.d (.sl (.st 4))), .dat (.st 5), .dat (.st 5)]) fishkeep2_FareLess.H (W := W) (p := (x0, x1, x2, x3, ())) hlaw ⟨⟨cs0.toList, by simp, cellsOf_ok (B := tab) (t := (.st 3)) (by kernel_rfl) h0⟩, ⟨A1, n1, c1, rfl, hs1⟩, ⟨cs2.toList, by simp, cellsOf_ok (B := tab) (t := (.st 5)) (by kernel_rfl) h2⟩, ⟨cs3.toList, by simp, cellsOf_ok (B := tab) (t := (.st 5)) (by kernel_rfl) h3⟩, trivial⟩).mono fun e W' he => ?_
  obtain ⟨v, f', rfl, hle, rfl, hw⟩ := he
  exact ⟨_, rfl, post_of_wd hW0 laid (by rw [pars]; intro t ht; simp only [List.mem_cons, List.not_mem_nil, or_false] at ht; rcases ht with rfl | rfl | rfl | rfl; all_goals first | exact ⟨rr25, rs25⟩ | exact ⟨rr26, rs26⟩ | exact ⟨rr29, rs29⟩) rfl rfl rfl ud4 hle hw⟩
def pinV : DataW Unit → Value
  | .lit (.int k n) => .int k n
  | _ => Go.undef
def pinO (d : DataW Unit) : Obj → Obj
  | .cells c t fr => match d with
    | .agg l => .cells (l.map pinV).toArray t fr
    | _ => .cells c t fr
  | x => x
noncomputable def startW (os : Os) : World := { World.doorLaid Tryz.prog 700 os with heap := ((World.doorLaid Tryz.prog 700 os).heap.modify ((Tryz.prog.globalNamed "unicode/utf8.first").getD 0) (pinO Rows.laid_unicode_utf8_first)) }
set_option maxRecDepth 100000 in
theorem met (os : Os) (args : Array Value) : laidMetH Tryz.prog Rows.fareLessRow.laid ((startW os).forCall (fun _ _ => 0) ⟨#[], args, []⟩).memory :=
  laidMetH_of_parts (laidMet_of_run' 12 (by kernel_rfl) (by kernel_rfl)) (by kernel_rfl)
set_option maxRecDepth 100000 in
theorem lifted (law : FareLessLaw) (os : Os) (started : os.Started) (H : Type) (enc : TypeId × Value → H) :
    ReturnsInHanded {} Tryz.checked os 3 .any (fun w args => (Rows.fareLessSpec.pre enc Tryz.prog Tryz.f3 [] false w args ∧ laidMetH Tryz.prog Rows.fareLessRow.laid w) ∧ sizedMet enc Tryz.prog Tryz.f3 (OpenSpec.ofChange Rows.fareLessSpec) false w args)
      (Rows.fareLessSpec.post enc Tryz.prog Tryz.f3 false true false false) := by
  refine returnsInHanded_of_change_and (C := Tryz.checked) (X := fun w _ => laidMetH Tryz.prog Rows.fareLessRow.laid w) (fun _ _ _ hh h => h.of_heap hh) own started (by kernel_rfl) Tryz.func3
    (ChangeSpec.witness_shaped (enc := enc) (C := Tryz.checked) (os := os) (X := fun w _ => laidMetH Tryz.prog Rows.fareLessRow.laid w) false (startW os) #[(.agg #[(.bool false), (.slice none 0 0), (.int .i64 0), (.slice none 0 0)]), (.slice none 0 0), (.agg #[(.int .i64 0), (.int .i64 0), (.slice none 0 0)]), (.agg #[(.int .i64 0), (.int .i64 0), (.slice none 0 0)])] 8 rfl (World.shaped_of_RefB (by kernel_rfl) (by kernel_rfl)) (by kernel_rfl) (by kernel_rfl) (by kernel_rfl) (met os _)) ?_
  intro W base args ds gs before hval hW _ hwt hX _
  exact contract law H enc W base args ds gs before hval hW
theorem said (law : FareLessLaw) : Rows.FareLessSaid :=
  OpenClaim.holds_of_wide 3 Tryz.f3 rfl rfl rfl rfl rfl rfl rfl ⟨rfl, rfl, rfl, rfl, rfl⟩ rfl rfl rfl rfl rfl (by kernel_rfl) Tryz.func3 (by kernel_rfl)
    (of_decide_eq_true (by kernel_rfl)) (by unfold Func.isWrapper; first | (rw [if_pos (by decide +kernel)]; kernel_rfl) | (rw [if_neg (by decide +kernel)]; exact ⟨rfl, rfl⟩))
    (fun os started H enc _ => lifted law os started H enc)
theorem ws25 : Tryz.prog.wantsStandIn 25 = false := by kernel_rfl
theorem ws26 : Tryz.prog.wantsStandIn 26 = false := by kernel_rfl
theorem ws29 : Tryz.prog.wantsStandIn 29 = false := by kernel_rfl
theorem close (law : FareLessLaw) : Rows.FareLessCardSaid :=
  Claim7.holds_tied_plain_at .later [] [.data, .data, .data, .data, .sentinel, .sentinel, .pinned] true (true, "4e3be0113d941e06885c8b7b4f46a567ce977fcd01901e696592c7b50e21d9f8") true
    (said law) (fun _ h => by cases h) (by kernel_rfl) (fun _ h => by cases h) fareLess_row_tie rfl ⟨rfl, rfl⟩ (by kernel_rfl) rfl
    (fun f fn hf hfn => by
      obtain rfl : f = 3 := Option.some.inj ((show Tryz.prog.funcNamed "fishplate/fishkeep2.FareLess" = some 3 by kernel_rfl).symm.trans hf) |>.symm
      obtain rfl : fn = Tryz.f3 := (Option.some.inj (Tryz.func3.symm.trans hfn)).symm
      exact ⟨by kernel_rfl, fun j t ht => by
        rw [pars] at ht
        have hm := List.mem_of_getElem? (l := [25, 26, 29, 29]) (by simpa using ht)
        simp only [List.mem_cons, List.not_mem_nil, or_false] at hm
        rcases hm with rfl | rfl | rfl | rfl
        all_goals first | exact ws25 | exact ws26 | exact ws29⟩)
    (by kernel_rfl)
end Go.Proofs.YtodbddhmfecbbaaGreatDoor.FareLess
