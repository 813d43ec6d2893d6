/- FleetEmpties: the statement follows from the plain law FleetEmptiesLaw. Printed by a tool. -/
import Derived.Test.YtmhpeefjjclpfaaZa
import Derived.Test.YtmhpeefjjclpfaaK5
import Derived.Test.YtmhpeefjjclpfaaRows
import Derived.JoinedCond
set_option linter.unusedVariables false
set_option linter.unusedSimpArgs false
set_option maxRecDepth 20000
set_option maxHeartbeats 2000000
namespace Go.Proofs.Ytmhpeefjjclpfaa.FleetEmpties
open Hk Hd Go.ChangeShapes Go.WideShapes Go.ChangeAt Go.RowKit
theorem ce22 : Try.prog.cellsOf 22 = 1 := by kernel_rfl
theorem ce36 : Try.prog.cellsOf 36 = 6 := by kernel_rfl
theorem ce3 : Try.prog.cellsOf 3 = 1 := by kernel_rfl
theorem ud3 : Try.prog.underlying 3 = some (.int .i64) := by kernel_rfl
theorem opn3 : Opn Try.prog 3 (fInt .i64) I64 := opn_int ud3 ce3
def okS_fleet_Task (x : S_fleet_Task) : Prop := I64 x.From ∧ I64 x.To ∧ I64 x.Dep ∧ I64 x.Arr ∧ I64 x.Km ∧ I64 x.Units
theorem fs36 : tyFs Try.prog 36 = some [(3, 0), (3, 1), (3, 2), (3, 3), (3, 4), (3, 5)] := by kernel_rfl
theorem opn36 : Opn Try.prog 36 fS_fleet_Task okS_fleet_Task := ⟨ce36, by decide, fun h => by
  obtain ⟨hl, n, hf⟩ := trod_fs fs36 h
  rw [ce36] at hl
  obtain ⟨_, h0⟩ := hf (3, 0) (by decide)
  obtain ⟨y0, h0, k0⟩ := opn3.go h0
  simp only [ce3] at h0
  obtain ⟨_, h1⟩ := hf (3, 1) (by decide)
  obtain ⟨y1, h1, k1⟩ := opn3.go h1
  simp only [ce3] at h1
  obtain ⟨_, h2⟩ := hf (3, 2) (by decide)
  obtain ⟨y2, h2, k2⟩ := opn3.go h2
  simp only [ce3] at h2
  obtain ⟨_, h3⟩ := hf (3, 3) (by decide)
  obtain ⟨y3, h3, k3⟩ := opn3.go h3
  simp only [ce3] at h3
  obtain ⟨_, h4⟩ := hf (3, 4) (by decide)
  obtain ⟨y4, h4, k4⟩ := opn3.go h4
  simp only [ce3] at h4
  obtain ⟨_, h5⟩ := hf (3, 5) (by decide)
  obtain ⟨y5, h5, k5⟩ := opn3.go h5
  simp only [ce3] at h5
  have hp : fS_fleet_Task.p _ (_ : List Value) (⟨y0, y1, y2, y3, y4, y5⟩ : S_fleet_Task) := fp_cons h0 (fp_cons h1 (fp_cons h2 (fp_cons h3 (fp_cons h4 (fp_last (by rw [hl]; rfl) h5)))))
  rw [List.drop_zero] at hp
  exact ⟨_, hp, k0, k1, k2, k3, k4, k5⟩⟩
theorem ud22 : Try.prog.underlying 22 = some (.slice 36) := by kernel_rfl
theorem opn22 : Opn Try.prog 22 (fSl fS_fleet_Task) (AllOk okS_fleet_Task) := opn_slice ud22 ce22 opn36
theorem ce26 : Try.prog.cellsOf 26 = 1 := by kernel_rfl
theorem ce45 : Try.prog.cellsOf 45 = 1 := by kernel_rfl
theorem ud45 : Try.prog.underlying 45 = some (.slice 3) := by kernel_rfl
theorem opn45 : Opn Try.prog 45 (fSl (fInt .i64)) (AllOk I64) := opn_slice ud45 ce45 opn3
theorem ud26 : Try.prog.underlying 26 = some (.slice 45) := by kernel_rfl
theorem opn26 : Opn Try.prog 26 (fSl (fSl (fInt .i64))) (AllOk (AllOk I64)) := opn_slice ud26 ce26 opn45
theorem ud4 : Try.prog.underlying 4 = some .bool := by kernel_rfl
theorem laid : laidOutB Try.prog = true := by kernel_rfl
theorem own : ownKnob Try.prog.godebug = none := by kernel_rfl
theorem pars : Try.f5.params = #[22, 3, 26] := rfl
theorem rr3 : Try.prog.readableRec 3 = true := by kernel_rfl
theorem rs3 : (3 : TypeId) < Try.prog.types.size := of_decide_eq_true (by kernel_rfl)
theorem rr22 : Try.prog.readableRec 22 = true := by kernel_rfl
theorem rs22 : (22 : TypeId) < Try.prog.types.size := of_decide_eq_true (by kernel_rfl)
theorem rr26 : Try.prog.readableRec 26 = true := by kernel_rfl
theorem rs26 : (26 : TypeId) < Try.prog.types.size := of_decide_eq_true (by kernel_rfl)
def FleetEmptiesLaw : Prop := ∀ (x0 : List S_fleet_Task) (x1 : Int) (x2 : List (List Int)), (AllOk okS_fleet_Task) x0 → I64 x1 → (AllOk (AllOk I64)) x2 → fishkeep2_FleetEmpties x0 x1 x2 = some true
theorem contract (law : FleetEmptiesLaw) (H : Type) (enc : TypeId × Value → H) (W : World) (base : Nat) (args : Array Value) (ds gs : List (DataW H)) (before : List MemPlace)
    (hval : ∀ (j : Nat) t v, Try.f5.params[j]? = some t → args[j]? = some v → Value.okWide Try.prog W .any base t v)
    (hW : DataW.Whole enc Try.prog Try.f5.params.toList Rows.fleetEmptiesSpec.vars false W args.toList ds gs before) :
    Calls Try.prog 5 args W fun e W' => ∃ v, e = .returned v ∧ Rows.fleetEmptiesSpec.post enc Try.prog Try.f5 false true false false W args v W' := by
  have hW0 := hW
  obtain ⟨p, q, hA, hV, rfl, hfz, hnd⟩ := hW
  rw [pars] at hA hval
  obtain ⟨v0, vs0, d0, ds0, p0, q0, e0, g0, b0, h0, r0⟩ := trodAll_cons hA
  obtain ⟨v1, vs1, d1, ds1, p1, q1, e1, g1, b1, h1, r1⟩ := trodAll_cons r0
  obtain ⟨v2, vs2, d2, ds2, p2, q2, e2, g2, b2, h2, r2⟩ := trodAll_cons r1
  obtain ⟨z1, z2, z3⟩ := trodAll_nil r2
  subst z1 z2
  subst e2 g2
  subst e1 g1
  subst g0
  obtain rfl : args = #[v0, v1, v2] := by cases args; simp_all
  have hgs : gs = [] := by cases gs with | nil => rfl | cons g l => exact hV.elim
  subst hgs
  have ok0 := hval 0 22 v0 rfl rfl
  obtain ⟨fu0, h0⟩ := h0
  obtain ⟨x0, h0, k0⟩ := opn22.go h0
  obtain ⟨A0, n0, c0, hc0, hs0⟩ := h0
  obtain rfl := okWide_sl ud22 ok0 hc0
  have ok1 := hval 1 3 v1 rfl rfl
  obtain ⟨fu1, h1⟩ := h1
  obtain ⟨x1, h1, k1⟩ := opn3.go h1
  obtain rfl := okWide_i ud3 ok1 h1
  have ok2 := hval 2 26 v2 rfl rfl
  obtain ⟨fu2, h2⟩ := h2
  obtain ⟨x2, h2, k2⟩ := opn26.go h2
  obtain ⟨A2, n2, c2, hc2, hs2⟩ := h2
  obtain rfl := okWide_sl ud26 ok2 hc2
  have hlaw := law x0 x1 x2 k0 k1 k2
  refine (root_calls (B := tab) (vs := [.one (.d (.sl (.st 0))), .one (.d (.int .i64)), .one (.d (.sl (.sl (.int .i64))))]) fishkeep2_FleetEmpties.H (W := W) (p := (x0, x1, x2, ())) hlaw ⟨⟨A0, n0, c0, rfl, hs0⟩, (by exact rfl), ⟨A2, n2, c2, rfl, hs2⟩, trivial⟩).mono fun e W' he => ?_
  obtain ⟨v, f', rfl, hle, rfl, hw⟩ := he
  exact ⟨_, rfl, post_of_wd hW0 laid (by rw [pars]; intro t ht; simp only [List.mem_cons, List.not_mem_nil, or_false] at ht; rcases ht with rfl | rfl | rfl; all_goals first | exact ⟨rr3, rs3⟩ | exact ⟨rr22, rs22⟩ | exact ⟨rr26, rs26⟩) rfl rfl rfl ud4 hle hw⟩
set_option maxRecDepth 100000 in
theorem lifted (law : FleetEmptiesLaw) (os : Os) (started : os.Started) (H : Type) (enc : TypeId × Value → H) :
    ReturnsInHanded {} Try.checked os 5 .any (Rows.fleetEmptiesSpec.pre6 enc Try.prog Try.f5 Rows.fleetEmptiesRow.domain false) (Rows.fleetEmptiesSpec.post enc Try.prog Try.f5 false true false false) := by
  refine returnsInHanded_of_change (C := Try.checked) own started (by kernel_rfl) Try.func5
    (ChangeSpec.witness6 (enc := enc) (C := Try.checked) false ⟨#[], #[(.slice none 0 0), (.int .i64 0), (.slice none 0 0)], []⟩ 8 (by kernel_rfl) (by kernel_rfl) (by kernel_rfl) (by kernel_rfl)) ?_
  intro W base args ds gs before hval hW _ _
  exact contract law H enc W base args ds gs before hval hW
theorem close (law : FleetEmptiesLaw) : Rows.FleetEmptiesSaid :=
  OpenClaim.holds_of_wide 5 Try.f5 rfl rfl rfl rfl rfl rfl rfl ⟨rfl, rfl, rfl, rfl, rfl⟩ rfl rfl rfl rfl rfl (by kernel_rfl) Try.func5 (by kernel_rfl)
    (of_decide_eq_true (by kernel_rfl)) (by unfold Func.isWrapper; first | (rw [if_pos (by decide +kernel)]; kernel_rfl) | (rw [if_neg (by decide +kernel)]; exact ⟨rfl, rfl⟩))
    (fun os started H enc _ => lifted law os started H enc)
end Go.Proofs.Ytmhpeefjjclpfaa.FleetEmpties
