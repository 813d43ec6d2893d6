/- FleetAssigned: the statement follows from the plain law FleetAssignedLaw. Printed by a tool. -/
import Derived.Test.YtmhpeefjjclpfaaZa
import Derived.Test.YtmhpeefjjclpfaaK5
import Derived.Test.YtmhpeefjjclpfaaRows
import Derived.JoinedCond
set_option linter.unusedVariables false
set_option linter.unusedSimpArgs false
set_option maxRecDepth 20000
set_option maxHeartbeats 2000000
namespace Go.Proofs.Ytmhpeefjjclpfaa.FleetAssigned
open Hk Hd Go.ChangeShapes Go.WideShapes Go.ChangeAt Go.RowKit
theorem ce22 : Try.prog.cellsOf 22 = 1 := by kernel_rfl
theorem ce36 : Try.prog.cellsOf 36 = 6 := by kernel_rfl
theorem ce3 : Try.prog.cellsOf 3 = 1 := by kernel_rfl
theorem ud3 : Try.prog.underlying 3 = some (.int .i64) := by kernel_rfl
theorem opn3 : Opn Try.prog 3 (fInt .i64) I64 := opn_int ud3 ce3
def okS_fleet_Task (x : S_fleet_Task) : Prop := I64 x.From ∧ I64 x.To ∧ I64 x.Dep ∧ I64 x.Arr ∧ I64 x.Km ∧ I64 x.Units
theorem fs36 : tyFs Try.prog 36 = some [(3, 0), (3, 1), (3, 2), (3, 3), (3, 4), (3, 5)] := by kernel_rfl
theorem opn36 : Opn Try.prog 36 fS_fleet_Task okS_fleet_Task := ⟨ce36, by decide, fun h => by
  obtain ⟨hl, n, hf⟩ := trod_fs fs36 h
  rw [ce36] at hl
  obtain ⟨_, h0⟩ := hf (3, 0) (by decide)
  obtain ⟨y0, h0, k0⟩ := opn3.go h0
  simp only [ce3] at h0
  obtain ⟨_, h1⟩ := hf (3, 1) (by decide)
  obtain ⟨y1, h1, k1⟩ := opn3.go h1
  simp only [ce3] at h1
  obtain ⟨_, h2⟩ := hf (3, 2) (by decide)
  obtain ⟨y2, h2, k2⟩ := opn3.go h2
  simp only [ce3] at h2
  obtain ⟨_, h3⟩ := hf (3, 3) (by decide)
  obtain ⟨y3, h3, k3⟩ := opn3.go h3
  simp only [ce3] at h3
  obtain ⟨_, h4⟩ := hf (3, 4) (by decide)
  obtain ⟨y4, h4, k4⟩ := opn3.go h4
  simp only [ce3] at h4
  obtain ⟨_, h5⟩ := hf (3, 5) (by decide)
  obtain ⟨y5, h5, k5⟩ := opn3.go h5
  simp only [ce3] at h5
  have hp : fS_fleet_Task.p _ (_ : List Value) (⟨y0, y1, y2, y3, y4, y5⟩ : S_fleet_Task) := fp_cons h0 (fp_cons h1 (fp_cons h2 (fp_cons h3 (fp_cons h4 (fp_last (by rw [hl]; rfl) h5)))))
  rw [List.drop_zero] at hp
  exact ⟨_, hp, k0, k1, k2, k3, k4, k5⟩⟩
theorem ud22 : Try.prog.underlying 22 = some (.slice 36) := by kernel_rfl
theorem opn22 : Opn Try.prog 22 (fSl fS_fleet_Task) (AllOk okS_fleet_Task) := opn_slice ud22 ce22 opn36
theorem ce38 : Try.prog.cellsOf 38 = 1 := by kernel_rfl
theorem ce47 : Try.prog.cellsOf 47 = 2 := by kernel_rfl
def okS_fleet_Set (x : S_fleet_Set) : Prop := I64 x.Home ∧ I64 x.Km
theorem fs47 : tyFs Try.prog 47 = some [(3, 0), (3, 1)] := by kernel_rfl
theorem opn47 : Opn Try.prog 47 fS_fleet_Set okS_fleet_Set := ⟨ce47, by decide, fun h => by
  obtain ⟨hl, n, hf⟩ := trod_fs fs47 h
  rw [ce47] at hl
  obtain ⟨_, h0⟩ := hf (3, 0) (by decide)
  obtain ⟨y0, h0, k0⟩ := opn3.go h0
  simp only [ce3] at h0
  obtain ⟨_, h1⟩ := hf (3, 1) (by decide)
  obtain ⟨y1, h1, k1⟩ := opn3.go h1
  simp only [ce3] at h1
  have hp : fS_fleet_Set.p _ (_ : List Value) (⟨y0, y1⟩ : S_fleet_Set) := fp_cons h0 (fp_last (by rw [hl]; rfl) h1)
  rw [List.drop_zero] at hp
  exact ⟨_, hp, k0, k1⟩⟩
theorem ud38 : Try.prog.underlying 38 = some (.slice 47) := by kernel_rfl
theorem opn38 : Opn Try.prog 38 (fSl fS_fleet_Set) (AllOk okS_fleet_Set) := opn_slice ud38 ce38 opn47
theorem ce40 : Try.prog.cellsOf 40 = 3 := by kernel_rfl
def okS_fleet_Shop (x : S_fleet_Shop) : Prop := I64 x.Place ∧ I64 x.Long ∧ I64 x.Limit
theorem fs40 : tyFs Try.prog 40 = some [(3, 0), (3, 1), (3, 2)] := by kernel_rfl
theorem opn40 : Opn Try.prog 40 fS_fleet_Shop okS_fleet_Shop := ⟨ce40, by decide, fun h => by
  obtain ⟨hl, n, hf⟩ := trod_fs fs40 h
  rw [ce40] at hl
  obtain ⟨_, h0⟩ := hf (3, 0) (by decide)
  obtain ⟨y0, h0, k0⟩ := opn3.go h0
  simp only [ce3] at h0
  obtain ⟨_, h1⟩ := hf (3, 1) (by decide)
  obtain ⟨y1, h1, k1⟩ := opn3.go h1
  simp only [ce3] at h1
  obtain ⟨_, h2⟩ := hf (3, 2) (by decide)
  obtain ⟨y2, h2, k2⟩ := opn3.go h2
  simp only [ce3] at h2
  have hp : fS_fleet_Shop.p _ (_ : List Value) (⟨y0, y1, y2⟩ : S_fleet_Shop) := fp_cons h0 (fp_cons h1 (fp_last (by rw [hl]; rfl) h2))
  rw [List.drop_zero] at hp
  exact ⟨_, hp, k0, k1, k2⟩⟩
theorem ud4 : Try.prog.underlying 4 = some .bool := by kernel_rfl
theorem laid : laidOutB Try.prog = true := by kernel_rfl
theorem own : ownKnob Try.prog.godebug = none := by kernel_rfl
theorem pars : Try.f8.params = #[22, 3, 38, 40] := rfl
theorem rr3 : Try.prog.readableRec 3 = true := by kernel_rfl
theorem rs3 : (3 : TypeId) < Try.prog.types.size := of_decide_eq_true (by kernel_rfl)
theorem rr22 : Try.prog.readableRec 22 = true := by kernel_rfl
theorem rs22 : (22 : TypeId) < Try.prog.types.size := of_decide_eq_true (by kernel_rfl)
theorem rr38 : Try.prog.readableRec 38 = true := by kernel_rfl
theorem rs38 : (38 : TypeId) < Try.prog.types.size := of_decide_eq_true (by kernel_rfl)
theorem rr40 : Try.prog.readableRec 40 = true := by kernel_rfl
theorem rs40 : (40 : TypeId) < Try.prog.types.size := of_decide_eq_true (by kernel_rfl)
def FleetAssignedLaw : Prop := ∀ (x0 : List S_fleet_Task) (x1 : Int) (x2 : List S_fleet_Set) (x3 : S_fleet_Shop), (AllOk okS_fleet_Task) x0 → I64 x1 → (AllOk okS_fleet_Set) x2 → okS_fleet_Shop x3 → fishkeep2_FleetAssigned x0 x1 x2 x3 = some true
theorem contract (law : FleetAssignedLaw) (H : Type) (enc : TypeId × Value → H) (W : World) (base : Nat) (args : Array Value) (ds gs : List (DataW H)) (before : List MemPlace)
    (hval : ∀ (j : Nat) t v, Try.f8.params[j]? = some t → args[j]? = some v → Value.okWide Try.prog W .any base t v)
    (hW : DataW.Whole enc Try.prog Try.f8.params.toList Rows.fleetAssignedSpec.vars false W args.toList ds gs before) :
    Calls Try.prog 8 args W fun e W' => ∃ v, e = .returned v ∧ Rows.fleetAssignedSpec.post enc Try.prog Try.f8 false true false false W args v W' := by
  have hW0 := hW
  obtain ⟨p, q, hA, hV, rfl, hfz, hnd⟩ := hW
  rw [pars] at hA hval
  obtain ⟨v0, vs0, d0, ds0, p0, q0, e0, g0, b0, h0, r0⟩ := trodAll_cons hA
  obtain ⟨v1, vs1, d1, ds1, p1, q1, e1, g1, b1, h1, r1⟩ := trodAll_cons r0
  obtain ⟨v2, vs2, d2, ds2, p2, q2, e2, g2, b2, h2, r2⟩ := trodAll_cons r1
  obtain ⟨v3, vs3, d3, ds3, p3, q3, e3, g3, b3, h3, r3⟩ := trodAll_cons r2
  obtain ⟨z1, z2, z3⟩ := trodAll_nil r3
  subst z1 z2
  subst e3 g3
  subst e2 g2
  subst e1 g1
  subst g0
  obtain rfl : args = #[v0, v1, v2, v3] := by cases args; simp_all
  have hgs : gs = [] := by cases gs with | nil => rfl | cons g l => exact hV.elim
  subst hgs
  have ok0 := hval 0 22 v0 rfl rfl
  obtain ⟨fu0, h0⟩ := h0
  obtain ⟨x0, h0, k0⟩ := opn22.go h0
  obtain ⟨A0, n0, c0, hc0, hs0⟩ := h0
  obtain rfl := okWide_sl ud22 ok0 hc0
  have ok1 := hval 1 3 v1 rfl rfl
  obtain ⟨fu1, h1⟩ := h1
  obtain ⟨x1, h1, k1⟩ := opn3.go h1
  obtain rfl := okWide_i ud3 ok1 h1
  have ok2 := hval 2 38 v2 rfl rfl
  obtain ⟨fu2, h2⟩ := h2
  obtain ⟨x2, h2, k2⟩ := opn38.go h2
  obtain ⟨A2, n2, c2, hc2, hs2⟩ := h2
  obtain rfl := okWide_sl ud38 ok2 hc2
  have ok3 := hval 3 40 v3 rfl rfl
  obtain ⟨fu3, h3⟩ := h3
  obtain ⟨x3, h3, k3⟩ := opn40.go h3
  obtain ⟨cs3, rfl⟩ := okWide_agg fs40 ok3
  replace h3 : fS_fleet_Shop.p (wh W) cs3.toList x3 := h3
  have hlaw := law x0 x1 x2 x3 k0 k1 k2 k3
  refine (root_calls (B := tab) (vs := [.one (.d (.sl (.st 0))), .one (.d (.int .i64)), .one (.d (.sl (.st 1))), .dat (.st 2)]) fishkeep2_FleetAssigned.H (W := W) (p := (x0, x1, x2, x3, ())) hlaw ⟨⟨A0, n0, c0, rfl, hs0⟩, (by exact rfl), ⟨A2, n2, c2, rfl, hs2⟩, ⟨cs3.toList, by simp, cellsOf_ok (B := tab) (t := (.st 2)) (by kernel_rfl) h3⟩, trivial⟩).mono fun e W' he => ?_
  obtain ⟨v, f', rfl, hle, rfl, hw⟩ := he
  exact ⟨_, rfl, post_of_wd hW0 laid (by rw [pars]; intro t ht; simp only [List.mem_cons, List.not_mem_nil, or_false] at ht; rcases ht with rfl | rfl | rfl | rfl; all_goals first | exact ⟨rr3, rs3⟩ | exact ⟨rr22, rs22⟩ | exact ⟨rr38, rs38⟩ | exact ⟨rr40, rs40⟩) rfl rfl rfl ud4 hle hw⟩
set_option maxRecDepth 100000 in
theorem lifted (law : FleetAssignedLaw) (os : Os) (started : os.Started) (H : Type) (enc : TypeId × Value → H) :
    ReturnsInHanded {} Try.checked os 8 .any (Rows.fleetAssignedSpec.pre6 enc Try.prog Try.f8 Rows.fleetAssignedRow.domain false) (Rows.fleetAssignedSpec.post enc Try.prog Try.f8 false true false false) := by
  refine returnsInHanded_of_change (C := Try.checked) own started (by kernel_rfl) Try.func8
    (ChangeSpec.witness6 (enc := enc) (C := Try.checked) false ⟨#[], #[(.slice none 0 0), (.int .i64 0), (.slice none 0 0), (.agg #[(.int .i64 0), (.int .i64 0), (.int .i64 0)])], []⟩ 8 (by kernel_rfl) (by kernel_rfl) (by kernel_rfl) (by kernel_rfl)) ?_
  intro W base args ds gs before hval hW _ _
  exact contract law H enc W base args ds gs before hval hW
theorem close (law : FleetAssignedLaw) : Rows.FleetAssignedSaid :=
  OpenClaim.holds_of_wide 8 Try.f8 rfl rfl rfl rfl rfl rfl rfl ⟨rfl, rfl, rfl, rfl, rfl⟩ rfl rfl rfl rfl rfl (by kernel_rfl) Try.func8 (by kernel_rfl)
    (of_decide_eq_true (by kernel_rfl)) (by unfold Func.isWrapper; first | (rw [if_pos (by decide +kernel)]; kernel_rfl) | (rw [if_neg (by decide +kernel)]; exact ⟨rfl, rfl⟩))
    (fun os started H enc _ => lifted law os started H enc)
end Go.Proofs.Ytmhpeefjjclpfaa.FleetAssigned
