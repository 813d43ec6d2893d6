/- FleetKept: the statement follows from the plain law FleetKeptLaw. Printed by a tool. -/
import Derived.Test.YtmhpeefjjclpfaaZa
import Derived.Test.YtmhpeefjjclpfaaK5
import Derived.Test.YtmhpeefjjclpfaaRows
import Derived.JoinedCond
set_option linter.unusedVariables false
set_option linter.unusedSimpArgs false
set_option maxRecDepth 20000
set_option maxHeartbeats 2000000
namespace Go.Proofs.Ytmhpeefjjclpfaa.FleetKept
open Hk Hd Go.ChangeShapes Go.WideShapes Go.ChangeAt Go.RowKit
theorem ce22 : Try.prog.cellsOf 22 = 1 := by kernel_rfl
theorem ce36 : Try.prog.cellsOf 36 = 6 := by kernel_rfl
theorem ce3 : Try.prog.cellsOf 3 = 1 := by kernel_rfl
theorem ud3 : Try.prog.underlying 3 = some (.int .i64) := by kernel_rfl
theorem opn3 : Opn Try.prog 3 (fInt .i64) I64 := opn_int ud3 ce3
def okS_fleet_Task (x : S_fleet_Task) : Prop := I64 x.From ∧ I64 x.To ∧ I64 x.Dep ∧ I64 x.Arr ∧ I64 x.Km ∧ I64 x.Units
theorem fs36 : tyFs Try.prog 36 = some [(3, 0), (3, 1), (3, 2), (3, 3), (3, 4), (3, 5)] := by kernel_rfl
theorem opn36 : Opn Try.prog 36 fS_fleet_Task okS_fleet_Task := ⟨ce36, by decide, fun h => by
  obtain ⟨hl, n, hf⟩ := trod_fs fs36 h
  rw [ce36] at hl
  obtain ⟨_, h0⟩ := hf (3, 0) (by decide)
  obtain ⟨y0, h0, k0⟩ := opn3.go h0
  simp only [ce3] at h0
  obtain ⟨_, h1⟩ := hf (3, 1) (by decide)
  obtain ⟨y1, h1, k1⟩ := opn3.go h1
  simp only [ce3] at h1
  obtain ⟨_, h2⟩ := hf (3, 2) (by decide)
  obtain ⟨y2, h2, k2⟩ := opn3.go h2
  simp only [ce3] at h2
  obtain ⟨_, h3⟩ := hf (3, 3) (by decide)
  obtain ⟨y3, h3, k3⟩ := opn3.go h3
  simp only [ce3] at h3
  obtain ⟨_, h4⟩ := hf (3, 4) (by decide)
  obtain ⟨y4, h4, k4⟩ := opn3.go h4
  simp only [ce3] at h4
  obtain ⟨_, h5⟩ := hf (3, 5) (by decide)
  obtain ⟨y5, h5, k5⟩ := opn3.go h5
  simp only [ce3] at h5
  have hp : fS_fleet_Task.p _ (_ : List Value) (⟨y0, y1, y2, y3, y4, y5⟩ : S_fleet_Task) := fp_cons h0 (fp_cons h1 (fp_cons h2 (fp_cons h3 (fp_cons h4 (fp_last (by rw [hl]; rfl) h5)))))
  rw [List.drop_zero] at hp
  exact ⟨_, hp, k0, k1, k2, k3, k4, k5⟩⟩
theorem ud22 : Try.prog.underlying 22 = some (.slice 36) := by kernel_rfl
theorem opn22 : Opn Try.prog 22 (fSl fS_fleet_Task) (AllOk okS_fleet_Task) := opn_slice ud22 ce22 opn36
theorem ce55 : Try.prog.cellsOf 55 = 7 := by kernel_rfl
def okS_fleet_Limits (x : S_fleet_Limits) : Prop := I64 x.Change ∧ I64 x.Long ∧ I64 x.Work ∧ I64 x.After ∧ I64 x.Break ∧ I64 x.Rest ∧ I64 x.Row
theorem fs55 : tyFs Try.prog 55 = some [(3, 0), (3, 1), (3, 2), (3, 3), (3, 4), (3, 5), (3, 6)] := by kernel_rfl
theorem opn55 : Opn Try.prog 55 fS_fleet_Limits okS_fleet_Limits := ⟨ce55, by decide, fun h => by
  obtain ⟨hl, n, hf⟩ := trod_fs fs55 h
  rw [ce55] at hl
  obtain ⟨_, h0⟩ := hf (3, 0) (by decide)
  obtain ⟨y0, h0, k0⟩ := opn3.go h0
  simp only [ce3] at h0
  obtain ⟨_, h1⟩ := hf (3, 1) (by decide)
  obtain ⟨y1, h1, k1⟩ := opn3.go h1
  simp only [ce3] at h1
  obtain ⟨_, h2⟩ := hf (3, 2) (by decide)
  obtain ⟨y2, h2, k2⟩ := opn3.go h2
  simp only [ce3] at h2
  obtain ⟨_, h3⟩ := hf (3, 3) (by decide)
  obtain ⟨y3, h3, k3⟩ := opn3.go h3
  simp only [ce3] at h3
  obtain ⟨_, h4⟩ := hf (3, 4) (by decide)
  obtain ⟨y4, h4, k4⟩ := opn3.go h4
  simp only [ce3] at h4
  obtain ⟨_, h5⟩ := hf (3, 5) (by decide)
  obtain ⟨y5, h5, k5⟩ := opn3.go h5
  simp only [ce3] at h5
  obtain ⟨_, h6⟩ := hf (3, 6) (by decide)
  obtain ⟨y6, h6, k6⟩ := opn3.go h6
  simp only [ce3] at h6
  have hp : fS_fleet_Limits.p _ (_ : List Value) (⟨y0, y1, y2, y3, y4, y5, y6⟩ : S_fleet_Limits) := fp_cons h0 (fp_cons h1 (fp_cons h2 (fp_cons h3 (fp_cons h4 (fp_cons h5 (fp_last (by rw [hl]; rfl) h6))))))
  rw [List.drop_zero] at hp
  exact ⟨_, hp, k0, k1, k2, k3, k4, k5, k6⟩⟩
theorem ud4 : Try.prog.underlying 4 = some .bool := by kernel_rfl
theorem laid : laidOutB Try.prog = true := by kernel_rfl
theorem own : ownKnob Try.prog.godebug = none := by kernel_rfl
theorem pars : Try.f6.params = #[22, 55, 3] := rfl
theorem rr3 : Try.prog.readableRec 3 = true := by kernel_rfl
theorem rs3 : (3 : TypeId) < Try.prog.types.size := of_decide_eq_true (by kernel_rfl)
theorem rr22 : Try.prog.readableRec 22 = true := by kernel_rfl
theorem rs22 : (22 : TypeId) < Try.prog.types.size := of_decide_eq_true (by kernel_rfl)
theorem rr55 : Try.prog.readableRec 55 = true := by kernel_rfl
theorem rs55 : (55 : TypeId) < Try.prog.types.size := of_decide_eq_true (by kernel_rfl)
def FleetKeptLaw : Prop := ∀ (x0 : List S_fleet_Task) (x1 : S_fleet_Limits) (x2 : Int), (AllOk okS_fleet_Task) x0 → okS_fleet_Limits x1 → I64 x2 → fishkeep2_FleetKept x0 x1 x2 = some true
theorem contract (law : FleetKeptLaw) (H : Type) (enc : TypeId × Value → H) (W : World) (base : Nat) (args : Array Value) (ds gs : List (DataW H)) (before : List MemPlace)
    (hval : ∀ (j : Nat) t v, Try.f6.params[j]? = some t → args[j]? = some v → Value.okWide Try.prog W .any base t v)
    (hW : DataW.Whole enc Try.prog Try.f6.params.toList Rows.fleetKeptSpec.vars false W args.toList ds gs before) :
    Calls Try.prog 6 args W fun e W' => ∃ v, e = .returned v ∧ Rows.fleetKeptSpec.post enc Try.prog Try.f6 false true false false W args v W' := by
  have hW0 := hW
  obtain ⟨p, q, hA, hV, rfl, hfz, hnd⟩ := hW
  rw [pars] at hA hval
  obtain ⟨v0, vs0, d0, ds0, p0, q0, e0, g0, b0, h0, r0⟩ := trodAll_cons hA
  obtain ⟨v1, vs1, d1, ds1, p1, q1, e1, g1, b1, h1, r1⟩ := trodAll_cons r0
  obtain ⟨v2, vs2, d2, ds2, p2, q2, e2, g2, b2, h2, r2⟩ := trodAll_cons r1
  obtain ⟨z1, z2, z3⟩ := trodAll_nil r2
  subst z1 z2
  subst e2 g2
  subst e1 g1
  subst g0
  obtain rfl : args = #[v0, v1, v2] := by cases args; simp_all
  have hgs : gs = [] := by cases gs with | nil => rfl | cons g l => exact hV.elim
  subst hgs
  have ok0 := hval 0 22 v0 rfl rfl
  obtain ⟨fu0, h0⟩ := h0
  obtain ⟨x0, h0, k0⟩ := opn22.go h0
  obtain ⟨A0, n0, c0, hc0, hs0⟩ := h0
  obtain rfl := okWide_sl ud22 ok0 hc0
  have ok1 := hval 1 55 v1 rfl rfl
  obtain ⟨fu1, h1⟩ := h1
  obtain ⟨x1, h1, k1⟩ := opn55.go h1
  obtain ⟨cs1, rfl⟩ := okWide_agg fs55 ok1
  replace h1 : fS_fleet_Limits.p (wh W) cs1.toList x1 := h1
  have ok2 := hval 2 3 v2 rfl rfl
  obtain ⟨fu2, h2⟩ := h2
  obtain ⟨x2, h2, k2⟩ := opn3.go h2
  obtain rfl := okWide_i ud3 ok2 h2
  have hlaw := law x0 x1 x2 k0 k1 k2
  refine (root_calls (B := tab) (vs := [.one (.d (.sl (.st 0))), .dat (.st 1), .one (.d (.int .i64))]) fishkeep2_FleetKept.H (W := W) (p := (x0, x1, x2, ())) hlaw ⟨⟨A0, n0, c0, rfl, hs0⟩, ⟨cs1.toList, by simp, cellsOf_ok (B := tab) (t := (.st 1)) (by kernel_rfl) h1⟩, (by exact rfl), trivial⟩).mono fun e W' he => ?_
  obtain ⟨v, f', rfl, hle, rfl, hw⟩ := he
  exact ⟨_, rfl, post_of_wd hW0 laid (by rw [pars]; intro t ht; simp only [List.mem_cons, List.not_mem_nil, or_false] at ht; rcases ht with rfl | rfl | rfl; all_goals first | exact ⟨rr3, rs3⟩ | exact ⟨rr22, rs22⟩ | exact ⟨rr55, rs55⟩) rfl rfl rfl ud4 hle hw⟩
set_option maxRecDepth 100000 in
theorem lifted (law : FleetKeptLaw) (os : Os) (started : os.Started) (H : Type) (enc : TypeId × Value → H) :
    ReturnsInHanded {} Try.checked os 6 .any (Rows.fleetKeptSpec.pre6 enc Try.prog Try.f6 Rows.fleetKeptRow.domain false) (Rows.fleetKeptSpec.post enc Try.prog Try.f6 false true false false) := by
  refine returnsInHanded_of_change (C := Try.checked) own started (by kernel_rfl) Try.func6
    (ChangeSpec.witness6 (enc := enc) (C := Try.checked) false ⟨#[], #[(.slice none 0 0), (.agg #[(.int .i64 0), (.int .i64 0), (.int .i64 0), (.int .i64 0), (.int .i64 0), (.int .i64 0), (.int .i64 0)]), (.int .i64 0)], []⟩ 8 (by kernel_rfl) (by kernel_rfl) (by kernel_rfl) (by kernel_rfl)) ?_
  intro W base args ds gs before hval hW _ _
  exact contract law H enc W base args ds gs before hval hW
theorem close (law : FleetKeptLaw) : Rows.FleetKeptSaid :=
  OpenClaim.holds_of_wide 6 Try.f6 rfl rfl rfl rfl rfl rfl rfl ⟨rfl, rfl, rfl, rfl, rfl⟩ rfl rfl rfl rfl rfl (by kernel_rfl) Try.func6 (by kernel_rfl)
    (of_decide_eq_true (by kernel_rfl)) (by unfold Func.isWrapper; first | (rw [if_pos (by decide +kernel)]; kernel_rfl) | (rw [if_neg (by decide +kernel)]; exact ⟨rfl, rfl⟩))
    (fun os started H enc _ => lifted law os started H enc)
end Go.Proofs.Ytmhpeefjjclpfaa.FleetKept
