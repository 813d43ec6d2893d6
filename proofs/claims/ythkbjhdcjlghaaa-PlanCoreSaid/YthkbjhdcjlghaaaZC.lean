/- PlanCore: the statement follows from the plain law PlanCoreLaw. Printed by a tool. -/
import Derived.Test.YthkbjhdcjlghaaaZa
import Derived.Test.YthkbjhdcjlghaaaK5
import Derived.Test.YthkbjhdcjlghaaaRows
import Derived.JoinedCond
set_option linter.unusedVariables false
set_option linter.unusedSimpArgs false
set_option maxRecDepth 20000
set_option maxHeartbeats 2000000
namespace Go.Proofs.Ythkbjhdcjlghaaa.PlanCore
open Hk Hd Go.ChangeShapes Go.WideShapes Go.ChangeAt Go.RowKit
theorem ce73 : Try.prog.cellsOf 73 = 3 := by kernel_rfl
theorem ce3 : Try.prog.cellsOf 3 = 1 := by kernel_rfl
theorem ud3 : Try.prog.underlying 3 = some (.int .i64) := by kernel_rfl
theorem opn3 : Opn Try.prog 3 (fInt .i64) I64 := opn_int ud3 ce3
theorem ce71 : Try.prog.cellsOf 71 = 1 := by kernel_rfl
theorem ce78 : Try.prog.cellsOf 78 = 5 := by kernel_rfl
def okS_plan_Rule (x : S_plan_Rule) : Prop := I64 x.From ∧ I64 x.To ∧ I64 x.Min ∧ I64 x.Max ∧ I64 x.Weight
theorem fs78 : tyFs Try.prog 78 = some [(3, 0), (3, 1), (3, 2), (3, 3), (3, 4)] := by kernel_rfl
theorem opn78 : Opn Try.prog 78 fS_plan_Rule okS_plan_Rule := ⟨ce78, by decide, fun h => by
  obtain ⟨hl, n, hf⟩ := trod_fs fs78 h
  rw [ce78] at hl
  obtain ⟨_, h0⟩ := hf (3, 0) (by decide)
  obtain ⟨y0, h0, k0⟩ := opn3.go h0
  simp only [ce3] at h0
  obtain ⟨_, h1⟩ := hf (3, 1) (by decide)
  obtain ⟨y1, h1, k1⟩ := opn3.go h1
  simp only [ce3] at h1
  obtain ⟨_, h2⟩ := hf (3, 2) (by decide)
  obtain ⟨y2, h2, k2⟩ := opn3.go h2
  simp only [ce3] at h2
  obtain ⟨_, h3⟩ := hf (3, 3) (by decide)
  obtain ⟨y3, h3, k3⟩ := opn3.go h3
  simp only [ce3] at h3
  obtain ⟨_, h4⟩ := hf (3, 4) (by decide)
  obtain ⟨y4, h4, k4⟩ := opn3.go h4
  simp only [ce3] at h4
  have hp : fS_plan_Rule.p _ (_ : List Value) (⟨y0, y1, y2, y3, y4⟩ : S_plan_Rule) := fp_cons h0 (fp_cons h1 (fp_cons h2 (fp_cons h3 (fp_last (by rw [hl]; rfl) h4))))
  rw [List.drop_zero] at hp
  exact ⟨_, hp, k0, k1, k2, k3, k4⟩⟩
theorem ud71 : Try.prog.underlying 71 = some (.slice 78) := by kernel_rfl
theorem opn71 : Opn Try.prog 71 (fSl fS_plan_Rule) (AllOk okS_plan_Rule) := opn_slice ud71 ce71 opn78
def okS_plan_Periodic (x : S_plan_Periodic) : Prop := I64 x.Period ∧ I64 x.Events ∧ (AllOk okS_plan_Rule) x.Rules
theorem fs73 : tyFs Try.prog 73 = some [(3, 0), (3, 1), (71, 2)] := by kernel_rfl
theorem opn73 : Opn Try.prog 73 fS_plan_Periodic okS_plan_Periodic := ⟨ce73, by decide, fun h => by
  obtain ⟨hl, n, hf⟩ := trod_fs fs73 h
  rw [ce73] at hl
  obtain ⟨_, h0⟩ := hf (3, 0) (by decide)
  obtain ⟨y0, h0, k0⟩ := opn3.go h0
  simp only [ce3] at h0
  obtain ⟨_, h1⟩ := hf (3, 1) (by decide)
  obtain ⟨y1, h1, k1⟩ := opn3.go h1
  simp only [ce3] at h1
  obtain ⟨_, h2⟩ := hf (71, 2) (by decide)
  obtain ⟨y2, h2, k2⟩ := opn71.go h2
  simp only [ce71] at h2
  have hp : fS_plan_Periodic.p _ (_ : List Value) (⟨y0, y1, y2⟩ : S_plan_Periodic) := fp_cons h0 (fp_cons h1 (fp_last (by rw [hl]; rfl) h2))
  rw [List.drop_zero] at hp
  exact ⟨_, hp, k0, k1, k2⟩⟩
theorem ud4 : Try.prog.underlying 4 = some .bool := by kernel_rfl
theorem laid : laidOutB Try.prog = true := by kernel_rfl
theorem own : ownKnob Try.prog.godebug = none := by kernel_rfl
theorem pars : Try.f6.params = #[73] := rfl
theorem rr73 : Try.prog.readableRec 73 = true := by kernel_rfl
theorem rs73 : (73 : TypeId) < Try.prog.types.size := of_decide_eq_true (by kernel_rfl)
def PlanCoreLaw : Prop := ∀ (x0 : S_plan_Periodic), okS_plan_Periodic x0 → fishkeep2_PlanCore x0 = some true ∨ fishkeep2_PlanCore x0 = some true
theorem contract (law : PlanCoreLaw) (H : Type) (enc : TypeId × Value → H) (W : World) (base : Nat) (args : Array Value) (ds gs : List (DataW H)) (before : List MemPlace)
    (hval : ∀ (j : Nat) t v, Try.f6.params[j]? = some t → args[j]? = some v → Value.okWide Try.prog W .any base t v)
    (hW : DataW.Whole enc Try.prog Try.f6.params.toList Rows.planCoreSpec.vars false W args.toList ds gs before) :
    Calls Try.prog 6 args W fun e W' => ∃ v, e = .returned v ∧ Rows.planCoreSpec.post enc Try.prog Try.f6 false true false false W args v W' := by
  have hW0 := hW
  obtain ⟨p, q, hA, hV, rfl, hfz, hnd⟩ := hW
  rw [pars] at hA hval
  obtain ⟨v0, vs0, d0, ds0, p0, q0, e0, g0, b0, h0, r0⟩ := trodAll_cons hA
  obtain ⟨z1, z2, z3⟩ := trodAll_nil r0
  subst z1 z2
  subst g0
  obtain rfl : args = #[v0] := by cases args; simp_all
  have hgs : gs = [] := by cases gs with | nil => rfl | cons g l => exact hV.elim
  subst hgs
  have ok0 := hval 0 73 v0 rfl rfl
  obtain ⟨fu0, h0⟩ := h0
  obtain ⟨x0, h0, k0⟩ := opn73.go h0
  obtain ⟨cs0, rfl⟩ := okWide_agg fs73 ok0
  replace h0 : fS_plan_Periodic.p (wh W) cs0.toList x0 := h0
  have hlaw := law x0 k0
  rcases hlaw with hlaw | hlaw
  · refine (root_calls (B := tab) (vs := [.dat (.st 1)]) fishkeep2_PlanCore.H (W := W) (p := (x0, ())) hlaw ⟨⟨cs0.toList, by simp, cellsOf_ok (B := tab) (t := (.st 1)) (by kernel_rfl) h0⟩, trivial⟩).mono fun e W' he => ?_
    obtain ⟨v, f', rfl, hle, rfl, hw⟩ := he
    exact ⟨_, rfl, post_of_wd hW0 laid (by rw [pars]; intro t ht; simp only [List.mem_cons, List.not_mem_nil, or_false] at ht; rcases ht with rfl; all_goals first | exact ⟨rr73, rs73⟩) rfl rfl rfl ud4 hle hw⟩
  · refine (root_calls (B := tab) (vs := [.dat (.st 1)]) fishkeep2_PlanCore.H (W := W) (p := (x0, ())) hlaw ⟨⟨cs0.toList, by simp, cellsOf_ok (B := tab) (t := (.st 1)) (by kernel_rfl) h0⟩, trivial⟩).mono fun e W' he => ?_
    obtain ⟨v, f', rfl, hle, rfl, hw⟩ := he
    exact ⟨_, rfl, post_of_wd hW0 laid (by rw [pars]; intro t ht; simp only [List.mem_cons, List.not_mem_nil, or_false] at ht; rcases ht with rfl; all_goals first | exact ⟨rr73, rs73⟩) rfl rfl rfl ud4 hle hw⟩
set_option maxRecDepth 100000 in
theorem lifted (law : PlanCoreLaw) (os : Os) (started : os.Started) (H : Type) (enc : TypeId × Value → H) :
    ReturnsInHanded {} Try.checked os 6 .any (Rows.planCoreSpec.pre6 enc Try.prog Try.f6 Rows.planCoreRow.domain false) (Rows.planCoreSpec.post enc Try.prog Try.f6 false true false false) := by
  refine returnsInHanded_of_change (C := Try.checked) own started (by kernel_rfl) Try.func6
    (ChangeSpec.witness6 (enc := enc) (C := Try.checked) false ⟨#[], #[(.agg #[(.int .i64 0), (.int .i64 0), (.slice none 0 0)])], []⟩ 8 (by kernel_rfl) (by kernel_rfl) (by kernel_rfl) (by kernel_rfl)) ?_
  intro W base args ds gs before hval hW _ hwt
  exact contract law H enc W base args ds gs before hval hW
theorem close (law : PlanCoreLaw) : Rows.PlanCoreSaid :=
  OpenClaim.holds_of_wide 6 Try.f6 rfl rfl rfl rfl rfl rfl rfl ⟨rfl, rfl, rfl, rfl, rfl⟩ rfl rfl rfl rfl rfl (by kernel_rfl) Try.func6 (by kernel_rfl)
    (of_decide_eq_true (by kernel_rfl)) (by unfold Func.isWrapper; first | (rw [if_pos (by decide +kernel)]; kernel_rfl) | (rw [if_neg (by decide +kernel)]; exact ⟨rfl, rfl⟩))
    (fun os started H enc _ => lifted law os started H enc)
end Go.Proofs.Ythkbjhdcjlghaaa.PlanCore
